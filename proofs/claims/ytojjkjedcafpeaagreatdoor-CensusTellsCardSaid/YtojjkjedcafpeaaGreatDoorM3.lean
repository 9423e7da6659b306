import Derived.Test.YtojjkjedcafpeaaGreatDoorM2
import Derived.Test.YtojjkjedcafpeaaGreatDoorProg
import Derived.Laws.Externs
import Derived.Laws.CopyRow
set_option maxRecDepth 100000
set_option maxHeartbeats 1000000
namespace Go.Proofs.YtojjkjedcafpeaaGreatDoor.K
set_option linter.unusedVariables false
set_option linter.unusedSimpArgs false
theorem ar_Cap (b:Nat)(F:Nat→Prop)(m:AM)(w:World)(hr:(arR b F m).R w):
    Calls Tryz.prog 44 #[pt b 0] w fun e w'=>e=.returned (vi (m.cap:Int))∧Fr w w' no no:=by
 obtain⟨d,hd⟩:=hr;have hW:Words d.ws d.nw m.cap m.com:=hd.set;have hcl:m.cap≤1048576:=hd.capLe;refine enter (args:=[pt b 0]) (D:=no) (A:=[]) Tryz.func44 rfl 10 rfl [(b,.fn 0 6 (roF [sc d.bp 0 m.cap m.cap,vi (m.cap:Int),sc d.bw d.ow d.nw d.cw,vi ((countTo m.com m.cap:Nat):Int),vb m.armed,vi (m.refuse:Int)])),(d.bw,.fn d.ow (d.ow+d.nw) (u64s d.ws d.ow))] (WS.startL ⟨⟨rfl,hd.ro⟩,⟨rfl,hd.wo⟩,trivial⟩) fun ac hS=>?_;refine hS.regS [0] [0] (sg [] zn2 fun ac wd hS=>?_);refine wp_seq ?_;refine hS.regS [0,0] [0] (sg [(4,vb false)] zn2 fun ac wd hS=>?_);refine hS.condF ?_;refine wp_skip ?_;refine zpt ?_;refine hS.regS [0,0,0,0,0,0] [] fun _=>seg [(2,vi (m.cap:Int))] [] [.e b,.p (0≤0∧0<6)] ⟨(by decide),tv⟩ fun ac wd hS=>?_;refine wp_ret ?_;refine St.retC 0 hS (vi (m.cap:Int)) [] tv fun hw=>?_;refine⟨retd rfl,hw.fr0⟩
theorem ar_row (b:Nat)(F:Nat→Prop)(m:AM)(f:Int)(n:Int)(w:World)(hr:(arR b F m).R w):
    Calls Tryz.prog 102 #[pt b 0,vi f,vi n] w fun e w'=>e=.returned (.tuple #[vi (rowC m f n),vi (rowE m f n)])∧Fr w w' no no:=by
 obtain⟨d,hd⟩:=hr;have hW:Words d.ws d.nw m.cap m.com:=hd.set;have hcl:m.cap≤1048576:=hd.capLe;refine enter (args:=[pt b 0,vi f,vi n]) (D:=no) (A:=[]) Tryz.func102 rfl 23 rfl [(b,.fn 0 6 (roF [sc d.bp 0 m.cap m.cap,vi (m.cap:Int),sc d.bw d.ow d.nw d.cw,vi ((countTo m.com m.cap:Nat):Int),vb m.armed,vi (m.refuse:Int)])),(d.bw,.fn d.ow (d.ow+d.nw) (u64s d.ws d.ow))] (WS.startL ⟨⟨rfl,hd.ro⟩,⟨rfl,hd.wo⟩,trivial⟩) fun ac hS=>?_;refine hS.regS [0,0] [0,1,2] (sg [] zn2 fun ac wd hS=>?_);refine wp_seq ?_;refine wp_block ?_;refine hS.regS [0,0,0] [0,1,2] (sg [(8,vb false)] zn2 fun ac wd hS=>?_);refine hS.condF ?_;refine hS.regS [0,0,0] [0,1,2] (sg [(11,vb (decide ((n:Int)<1)))] zn2 fun ac wd hS=>?_);refine hS.condC (decide ((n:Int)<1)) (fun hb1o hb1=>?_) (fun hb1o hb1=>?_)
 ·
  refine hS.regS [0,0] [] (sg [(6,vi 0),(7,vi 2)] [] fun ac wd hS=>?_);refine wp_ret ?_;refine zpc ?_;refine zpr ?_;refine St.retC 0 hS (.tuple #[vi 0,vi 2]) [] tv fun hw=>?_;refine⟨retd (tuple2 (vint ?_) (vint ?_)),hw.fr0⟩
  all_goals (first|exact(rowE_lt (by omega)).symm|exact(rowC_lt (by omega)).symm|exact(rowE_ge (by omega)).symm|exact(rowC_ge (by omega)).symm)
 ·
  refine wp_skip ?_;refine zpb ?_;refine zpt ?_;refine zwq ?_;refine hS.opsC 6 [0,0,0,0,0,0] [] fun _=>seg [(17,.agg #[vi (m.cap:Int),sc d.bw d.ow d.nw d.cw]),(18,vi f),(19,vi n)] [(1,none)] [.e b,.p (0≤2∧2<6),.e b,.p (0≤1∧1<6)] ⟨(by decide),(by decide),tv⟩ fun ac wd hS=>?_;refine hS.call0 95 #[.agg #[vi (m.cap:Int),sc d.bw d.ow d.nw d.cw],vi f,vi n] 20 (bits_Count d.bw d.ow d.cw d.nw d.ws m.cap f n m.com _ (hS.mem.get 0 d.bw (.fn d.ow (d.ow+d.nw) (u64s d.ws d.ow))) (by first|assumption|omega|(simp_all;done)|(simp_all;omega)) (by first|assumption|omega|(simp_all;done)|(simp_all;omega))) fun ac wd hS=>?_;refine hS.opsC 4 [0,0,0,0] [] (sg [(6,vi (cntV m.com m.cap f n)),(7,vi (trnE m.cap f n))] [] fun ac wd hS=>?_);refine zlq ?_;refine wp_ret ?_;refine St.retC 0 hS (.tuple #[vi (cntV m.com m.cap f n),vi (trnE m.cap f n)]) [] tv fun hw=>?_;refine⟨retd (tuple2 (vint ?_) (vint ?_)),hw.fr0⟩
  all_goals (first|exact(rowE_lt (by omega)).symm|exact(rowC_lt (by omega)).symm|exact(rowE_ge (by omega)).symm|exact(rowC_ge (by omega)).symm)
theorem ar_check (b:Nat)(F:Nat→Prop)(m:AM)(a:Int)(n:Int)(w:World)(hr:(arR b F m).R w):
    Calls Tryz.prog 80 #[pt b 0,vi a,vi n] w fun e w'=>e=.returned (vi (chkE m a n))∧Fr w w' no no:=by
 obtain⟨d,hd⟩:=hr;have hW:Words d.ws d.nw m.cap m.com:=hd.set;have hcl:m.cap≤1048576:=hd.capLe;refine enter (args:=[pt b 0,vi a,vi n]) (D:=no) (A:=[]) Tryz.func80 rfl 71 rfl [(b,.fn 0 6 (roF [sc d.bp 0 m.cap m.cap,vi (m.cap:Int),sc d.bw d.ow d.nw d.cw,vi ((countTo m.com m.cap:Nat):Int),vb m.armed,vi (m.refuse:Int)])),(d.bw,.fn d.ow (d.ow+d.nw) (u64s d.ws d.ow))] (WS.startL ⟨⟨rfl,hd.ro⟩,⟨rfl,hd.wo⟩,trivial⟩) fun ac hS=>?_;refine hS.regS [0] [0,1,2] (sg [] zn2 fun ac wd hS=>?_);refine wp_seq ?_;refine wp_block ?_;refine hS.regS [0,0,0] [0,1,2] (sg [(11,vb false)] zn2 fun ac wd hS=>?_);refine hS.condF ?_;refine hS.regS [0,0,0,3,3,80,0,3,3,3,3,3,3,23,3,80,0,3,3,3,3,3,3,23,3,23,3,80,0] [0,1,2] fun _=>seg [(14,vb ((((decide ((a:Int)<0))||(decide ((n:Int)<0)))||(decide ((((m.cap:Int)*4096):Int)<n)))||(decide (((((m.cap:Int)*4096)-n):Int)<a))))] zn2 [.p ((((((decide ((a:Int)<0))||(decide ((n:Int)<0)))||(decide ((((m.cap:Int)*4096):Int)<n)))=false)∧True)→AllP [fit .i64 (((m.cap:Int)*4096)-n)]),.p ((((((decide ((a:Int)<0))||(decide ((n:Int)<0)))||(decide ((((m.cap:Int)*4096):Int)<n)))=false)∧True)→AllP [fit .i64 ((m.cap:Int)*4096)]),.p ((((((decide ((a:Int)<0))||(decide ((n:Int)<0)))||(decide ((((m.cap:Int)*4096):Int)<n)))=false)∧True)→AllP [(b:Nat)=b,0≤0∧0<6]),.p (((((decide ((a:Int)<0))||(decide ((n:Int)<0)))=false)∧True)→AllP [fit .i64 ((m.cap:Int)*4096)]),.p (((((decide ((a:Int)<0))||(decide ((n:Int)<0)))=false)∧True)→AllP [(b:Nat)=b,0≤0∧0<6])] ⟨(fun⟨hc0,_⟩=>by replace hc0:=nrm hc0;exact⟨zf6 (by omega),trivial⟩),(fun⟨hc0,_⟩=>by replace hc0:=nrm hc0;exact⟨zf6 (by omega),trivial⟩),(fun⟨hc0,_⟩=>by replace hc0:=nrm hc0;exact⟨rfl,(by decide),trivial⟩),(fun⟨hc0,_⟩=>by replace hc0:=nrm hc0;exact⟨zf6 (by omega),trivial⟩),(fun⟨hc0,_⟩=>by replace hc0:=nrm hc0;exact⟨rfl,(by decide),trivial⟩),tv⟩ fun ac wd hS=>?_;refine hS.condC ((((decide ((a:Int)<0))||(decide ((n:Int)<0)))||(decide ((((m.cap:Int)*4096):Int)<n)))||(decide (((((m.cap:Int)*4096)-n):Int)<a))) (fun hb1o hb1=>?_) (fun hb1o hb1=>?_)
 ·
  refine hS.regS [0] [] (sg [(6,vi 3)] [] fun ac wd hS=>?_);refine wp_ret ?_;refine zpc ?_;refine zpr ?_;refine St.retC 0 hS (vi 3) [] tv fun hw=>?_;refine⟨retd (vint ?_),hw.fr0⟩
  all_goals (first|exact chk_out (inB_no (by omega))|exact chk_nil (inB_yes (by omega) (by omega) (by omega) (by omega)) (by omega)|exact chk_no (inB_yes (by omega) (by omega) (by omega) (by omega)) (by omega) (by omega)|exact chk_yes (inB_yes (by omega) (by omega) (by omega) (by omega)) (by omega) (by omega))
 ·
  refine hS.regS [0,0,0] [0,1,2] (sg [(43,vb ((n:Int)==0))] zn2 fun ac wd hS=>?_);refine hS.condC ((n:Int)==0) (fun hb2o hb2=>?_) (fun hb2o hb2=>?_)
  ·
   refine hS.regS [0] [] (sg [(6,vi 0)] [] fun ac wd hS=>?_);refine wp_ret ?_;refine zpc ?_;refine zpr ?_;refine St.retC 0 hS (vi 0) [] tv fun hw=>?_;refine⟨retd (vint ?_),hw.fr0⟩
   all_goals (first|exact chk_out (inB_no (by omega))|exact chk_nil (inB_yes (by omega) (by omega) (by omega) (by omega)) (by omega)|exact chk_no (inB_yes (by omega) (by omega) (by omega) (by omega)) (by omega) (by omega)|exact chk_yes (inB_yes (by omega) (by omega) (by omega) (by omega)) (by omega) (by omega))
  ·
   refine wp_skip ?_;refine zpb ?_;refine zpt ?_;refine hS.regS [0,20,0,0,20,20,20,0,0] [0] fun _=>seg [(7,vi (a/4096)),(8,vi (((a+n)-1)/4096))] zn2 [.p ((4096:Int)≠0∧IntKind.i64.wrap (Int.tdiv ((a+n)-1) 4096)=((a+n)-1)/4096),.p (fit .i64 ((a+n)-1)),.p (fit .i64 (a+n)),.p ((4096:Int)≠0∧IntKind.i64.wrap (Int.tdiv a 4096)=a/4096)] ⟨quo2 (by omega) (by omega) (by omega),zf6 (by omega),zf6 (by omega),quo2 (by omega) (by omega) (by omega),tv⟩ fun ac wd hS=>?_;refine wp_seq ?_;refine zwq ?_;refine hS.opsC 9 [0,0,0,0,0,0,0,20,20] [7,8] fun _=>seg [(57,.agg #[vi (m.cap:Int),sc d.bw d.ow d.nw d.cw]),(58,vi (a/4096)),(62,vi (((((a+n)-1)/4096)-(a/4096))+1))] [(1,none)] [.p (fit .i64 (((((a+n)-1)/4096)-(a/4096))+1)),.p (fit .i64 ((((a+n)-1)/4096)-(a/4096))),.e b,.p (0≤2∧2<6),.e b,.p (0≤1∧1<6)] ⟨zf6 (by omega),zf6 (by omega),(by decide),(by decide),tv⟩ fun ac wd hS=>?_;refine hS.call0 95 #[.agg #[vi (m.cap:Int),sc d.bw d.ow d.nw d.cw],vi (a/4096),vi (((((a+n)-1)/4096)-(a/4096))+1)] 63 (bits_Count d.bw d.ow d.cw d.nw d.ws m.cap (a/4096) (((((a+n)-1)/4096)-(a/4096))+1) m.com _ (hS.mem.get 0 d.bw (.fn d.ow (d.ow+d.nw) (u64s d.ws d.ow))) (by first|assumption|omega|(simp_all;done)|(simp_all;omega)) (by first|assumption|omega|(simp_all;done)|(simp_all;omega))) fun ac wd hS=>?_;refine hS.opsC 5 [0,0,0,0,0] [7,8] (sg [(9,vi (cntV m.com m.cap (a/4096) (((((a+n)-1)/4096)-(a/4096))+1)))] [] fun ac wd hS=>?_);refine zlq ?_;refine hS.regS [0,0,0,20,0] [] fun _=>seg [(70,vb (decide (((cntV m.com m.cap (a/4096) (((((a+n)-1)/4096)-(a/4096))+1)):Int)≤((((a+n)-1)/4096)-(a/4096)))))] [] [.p (fit .i64 ((((a+n)-1)/4096)-(a/4096)))] ⟨zf6 (by omega),tv⟩ fun ac wd hS=>?_;refine hS.condC (decide (((cntV m.com m.cap (a/4096) (((((a+n)-1)/4096)-(a/4096))+1)):Int)≤((((a+n)-1)/4096)-(a/4096)))) (fun hb3o hb3=>?_) (fun hb3o hb3=>?_)
   ·
    refine hS.regS [0] [] (sg [(6,vi 3)] [] fun ac wd hS=>?_);refine wp_ret ?_;refine zpr ?_;refine St.retC 0 hS (vi 3) [] tv fun hw=>?_;refine⟨retd (vint ?_),hw.fr0⟩
    all_goals (first|exact chk_out (inB_no (by omega))|exact chk_nil (inB_yes (by omega) (by omega) (by omega) (by omega)) (by omega)|exact chk_no (inB_yes (by omega) (by omega) (by omega) (by omega)) (by omega) (by omega)|exact chk_yes (inB_yes (by omega) (by omega) (by omega) (by omega)) (by omega) (by omega))
   ·
    refine wp_skip ?_;refine zpt ?_;refine hS.regS [0] [] (sg [(6,vi 0)] [] fun ac wd hS=>?_);refine wp_ret ?_;refine St.retC 0 hS (vi 0) [] tv fun hw=>?_;refine⟨retd (vint ?_),hw.fr0⟩
    all_goals (first|exact chk_out (inB_no (by omega))|exact chk_nil (inB_yes (by omega) (by omega) (by omega) (by omega)) (by omega)|exact chk_no (inB_yes (by omega) (by omega) (by omega) (by omega)) (by omega) (by omega)|exact chk_yes (inB_yes (by omega) (by omega) (by omega) (by omega)) (by omega) (by omega))
theorem ar_New (c:Int)(w:World):
    Calls Tryz.prog 14 #[vi c] w fun e w'=>∃(b':Nat) (F':Nat→Prop),e=.returned (pt b' 0)∧(arR b' F' (AM.new c)).R w'∧Fr w w' no F':=by
 have hcap:=capN_le c;refine enter (args:=[vi c]) (D:=no) (A:=[]) Tryz.func14 rfl 12 rfl [] (WS.startL trivial) fun ac hS=>?_;refine hS.regS [0] [0] (sg [] [] fun ac wd hS=>?_);refine zwq ?_;refine hS.opsC 1 [0] [] (sg [(4,vi c)] [] fun ac wd hS=>?_);refine hS.callC 59 #[vi c] (bits_New c _) ?_;rintro _ wd ⟨g21,c22,rfl,hog0,hoh0,hF⟩;have ho3:w.heap.size≤g21:=Nat.le_trans hS.mem.fr.size hog0;refine⟨.agg #[vi ((capN c:Nat):Int),sc g21 0 ((capN c+63)/64) c22],rfl,?_⟩;replace hS:=(hS.to (hS.mem.outs hF [(g21,.fn 0 (0+((capN c+63)/64)) (u64s (fun _=>0) 0))] ⟨⟨rfl,hoh0,.inr hog0⟩,trivial⟩)).put (d:=5) (v:=.agg #[vi ((capN c:Nat):Int),sc g21 0 ((capN c+63)/64) c22]) (by decide);clear hF;refine hS.opsC 2 [0,100] [] fun ν3=>seg [(3,pt (ν3 0) 0)] [(0,none),(1,some ((ν3 0),.cells [vi ((capN c:Nat):Int),sc g21 0 ((capN c+63)/64) c22] 95))] [.e (ν3 0),.e (ν3 0)] tv fun ac wd hS=>?_;refine zlq ?_;refine St.ordBeginS [(0,1),(3,1),(1,0),(2,0),(4,1),(5,0),(6,1)] [(g21,.fn 0 (0+((capN c+63)/64)) (u64s (fun _=>0) 0)),((ν3 0),.cells [vi ((capN c:Nat):Int),sc g21 0 ((capN c+63)/64) c22] 95)] [0,1] hS fun wd hS=>?_;have hap:=hS.mem.pairs (Hf:=[(g21,.fn 0 (0+((capN c+63)/64)) (u64s (fun _=>0) 0)),((ν3 0),.cells [vi ((capN c:Nat):Int),sc g21 0 ((capN c+63)/64) c22] 95)]) (l:=[0,1]);refine St.ordF [100,100] [0,3] [] (rest:=[(1,0),(2,0),(4,1),(5,0),(6,1)]) hS hap<|segF [(6,.agg #[vi ((capN c:Nat):Int),sc g21 0 ((capN c+63)/64) c22]),(9,.agg #[vi ((capN c:Nat):Int),sc g21 0 ((capN c+63)/64) c22])] [.e (ν3 0),.e (ν3 0),.e (ν3 0),.e (ν3 0)] tv fun ac hS=>?_;refine hS.ordC 1 60 #[.agg #[vi ((capN c:Nat):Int),sc g21 0 ((capN c+63)/64) c22]] (bits_Len_ g21 0 c22 ((capN c+63)/64) (capN c) _) ?_;rintro _ wd ⟨rfl,hF⟩;refine⟨vi (((capN c):Nat):Int),rfl,?_⟩;replace hS:=hS.kp hF 7 (vi (((capN c):Nat):Int));clear hF;refine hS.ordV (l:=[0,1]) ?_;refine St.ord1 2 [90] [9] [0,1] hS rfl fun ν4=>seg [(8,sc (ν4 0) 0 (capN c) (capN c))] [(0,none),(1,none),(2,some ((ν4 0),.row 125 (capN c) (capN c) zerosP))] [.p (((((capN c):Nat):Int):Int)=(((capN c):Nat):Int)),.p ((0:Int)≤(((capN c):Nat):Int)∧((((capN c):Nat):Int):Int)≤2^32∧8≤64)] ⟨rfl,(by omega),tv⟩ ⟨by as_aux_lemma=>kernel_rfl,fun ac wd hS=>?_⟩
 refine St.ordF [0] [4] [] (rest:=[(5,0),(6,1)]) hS hap<|segF [(10,.agg #[sc (ν4 0) 0 (capN c) (capN c),vi ((capN c:Nat):Int),sc g21 0 ((capN c+63)/64) c22,vi 0,vb false,vi 0])] [] tv fun ac hS=>?_;refine St.ord1 5 [0] [] [0,1] hS rfl fun ν5=>seg [(11,pt (ν5 0) 0)] [(0,none),(1,none),(2,none),(3,some ((ν5 0),.cells [sc (ν4 0) 0 (capN c) (capN c),vi ((capN c:Nat):Int),sc g21 0 ((capN c+63)/64) c22,vi 0,vb false,vi 0] 99))] [] trivial ⟨by as_aux_lemma=>kernel_rfl,fun ac wd hS=>?_⟩
 refine St.ordF [0] [6] [] (rest:=[]) hS hap<|segF [(2,pt (ν5 0) 0)] [] tv fun ac hS=>?_;refine zon ?_;refine wp_ret ?_;refine St.retC 0 hS (pt (ν5 0) 0) [] tv fun hw=>?_;have hcap:=capN_le c;have h1:=hw.get 3 (ν5 0) (.cells [sc (ν4 0) 0 (capN c) (capN c),vi ((capN c:Nat):Int),sc g21 0 ((capN c+63)/64) c22,vi 0,vb false,vi 0] 99);have h2:=hw.get 2 (ν4 0) (.row 125 (capN c) (capN c) zerosP);have h3:=hw.get 0 g21 (.fn 0 (0+((capN c+63)/64)) (u64s (fun _=>0) 0));have m1:=(hw.getm 3 (ν5 0) (.cells [sc (ν4 0) 0 (capN c) (capN c),vi ((capN c:Nat):Int),sc g21 0 ((capN c+63)/64) c22,vi 0,vb false,vi 0] 99)).resolve_right (fun h=>h);have m2:=(hw.getm 2 (ν4 0) (.row 125 (capN c) (capN c) zerosP)).resolve_right (fun h=>h);refine⟨_,_,rfl,ar_new h1 h2 h3 (hw.nq 3 2 (ν5 0) (ν4 0)) (hw.nq 0 3 g21 (ν5 0)).symm (hw.nq 0 2 g21 (ν4 0)).symm hcap rfl,hw.fr.to (fun k hk=>.inl hk) (fun k hk=>.inr ?_)⟩
 rcases hk with rfl|rfl|rfl;exact m1;exact m2;exact ho3
theorem zf_page126 (o:Nat)(ho:o<4096):bytes (fun _=>0) 0 o=zf Tryz.prog 126 o:=zf_all (n:=4096) (v:=.int .u8 0) (by as_aux_lemma=>kernel_rfl) o ho
theorem ar_Refuse (b:Nat)(F:Nat→Prop)(m:AM)(n:Int)(w:World)(hr:(arR b F m).R w)(hn:n≤9223372036854775807):
    Calls Tryz.prog 28 #[pt b 0,vi n] w fun e w'=>∃(F':Nat→Prop),e=.returned (.tuple #[])∧(arR b F' (refM m n)).R w'∧Fr w w' F F':=by
 have hb_:(imax 0 n).toNat<2^63:=by unfold imax;split<;>omega
 refine enter (args:=[pt b 0,vi n]) (D:=F) (A:=[arR b F m]) Tryz.func28 rfl 14 rfl [] (WS.startA (r:=arR b F m) hr trivial trivial) fun ac hS=>?_;refine hS.regS [0,0] [0,1] (sg [(5,vb true)] [] fun ac wd hS=>?_);refine hS.condT ?_;obtain⟨d,hd,hO,hbw⟩:=hS.mem.openA;replace hS:=hS.to hO;clear hO;have hcnt:=countTo_le m.com m.cap;have hW:Words d.ws d.nw m.cap m.com:=hd.set;have hcl:m.cap≤1048576:=hd.capLe;have hrl:m.refuse<2^63:=hd.refuseLe;refine hS.regC [0,0,0,fx 0 (vi (((imax 0 n).toNat:Nat):Int)),0,0,0,0,0,0] [] fun _=>seg [] [(0,some (b,.cells [sc d.bp 0 m.cap m.cap,vi (m.cap:Int),sc d.bw d.ow d.nw d.cw,vi ((countTo m.com m.cap:Nat):Int),vb true,vi (((imax 0 n).toNat:Nat):Int)] d.TA)),(1,none),(2,none)] [.e b,.e b,.p ((vi (imax 0 n):Value)=vi (((imax 0 n).toNat:Nat):Int))] ⟨(vint (refuse_set n)),tv⟩ fun ac wd hS=>?_;replace hS:=hS.to (WS.closeA (cap:=m.cap) (cnt:=(countTo m.com m.cap)) (refuse:=(imax 0 n).toNat) (com:=m.com) (mem:=m.mem) (pb:=d.pb) (Fq:=(Fp m.cap m.com d.pb)) hS.mem 0 1 2 b d.bp d.bw d.ow d.nw d.cw true d.TA d.TP d.ws hW hcl (by have:=hb_;omega) hbw rfl);refine St.fallC 0 hS (.tuple #[]) [] tv fun hw=>?_;refine⟨(fun k=>k=b∨k=d.bp∨k=d.bw∨(Fp m.cap m.com d.pb) k),retd rfl,(res_eq (r:=arR b (fun k=>k=b∨k=d.bp∨k=d.bw∨(Fp m.cap m.com d.pb) k) (⟨m.cap,m.com,m.mem,true,(imax 0 n).toNat⟩)) (by rfl) (hw.res 0)),hw.frA⟩
theorem ar_Commit (b:Nat)(F:Nat→Prop)(m:AM)(f:Int)(n:Int)(w:World)(hr:(arR b F m).R w):
    Calls Tryz.prog 56 #[pt b 0,vi f,vi n] w fun e w'=>∃(F':Nat→Prop),e=.returned (vi (comE m f n))∧(arR b F' (comM m f n)).R w'∧Fr w w' F F':=by
 refine enter (args:=[pt b 0,vi f,vi n]) (D:=F) (A:=[arR b F m]) Tryz.func56 rfl 84 rfl [] (WS.startA (r:=arR b F m) hr trivial trivial) fun ac hS=>?_;refine hS.regS [0] [0,1,2] (sg [] [] fun ac wd hS=>?_);refine wp_seq ?_;refine zwq ?_;refine hS.opsC 3 [0,0,0] [0,1,2] (sg [(11,pt b 0),(12,vi f),(13,vi n)] [] fun ac wd hS=>?_);refine hS.call0 102 #[pt b 0,vi f,vi n] 14 (ar_row b F m f n _ (hS.mem.res 0)) fun ac wd hS=>?_;refine hS.opsC 5 [0,0,0,0,0] [0,1,2] (sg [(7,vi (rowC m f n)),(8,vi (rowE m f n))] [] fun ac wd hS=>?_);refine zlq ?_;refine wp_block ?_;refine hS.regS [0,0,0] [0,1,2,7,8] (sg [(17,vb (((rowE m f n):Int)!=0))] [] fun ac wd hS=>?_);refine hS.condC (((rowE m f n):Int)!=0) (fun hb1o hb1=>?_) (fun hb1o hb1=>?_)
 ·
  refine hS.regS [0,0] [] (sg [(6,vi (rowE m f n))] [] fun ac wd hS=>?_);refine wp_ret ?_;refine zpc ?_;refine zpr ?_;refine St.retC 0 hS (vi (rowE m f n)) [] tv fun hw=>?_;refine⟨F,retd (vint ?_),(res_eq (r:=arR b F m) (by first|exact congrArg _ (com_no (by omega))|exact congrArg _ (com_ref hr0 hc0 ha1 (by omega))|(rw [i1,i2,show(x9-f).toNat=n.toNat by omega];exact congrArg _ (com_yes hr0 hc0 ha3))) (hw.res 0)),hw.frA⟩
  all_goals (first|exact(com_e1 (by omega)).symm|exact(com_e2 (by omega) (by omega)).symm|exact(com_e3 hr0 hc0 ha1 (by omega)).symm|exact(com_e4 hr0 hc0 ha3).symm)
 ·
  have hr0:=hb1;refine hS.regS [0,0,0] [0,1,2] (sg [(21,vb (decide ((0:Int)<(rowC m f n))))] [] fun ac wd hS=>?_);refine hS.condC (decide ((0:Int)<(rowC m f n))) (fun hb2o hb2=>?_) (fun hb2o hb2=>?_)
  ·
   refine hS.regS [0] [] (sg [(6,vi 9)] [] fun ac wd hS=>?_);refine wp_ret ?_;refine zpc ?_;refine zpr ?_;refine St.retC 0 hS (vi 9) [] tv fun hw=>?_;refine⟨F,retd (vint ?_),(res_eq (r:=arR b F m) (by first|exact congrArg _ (com_no (by omega))|exact congrArg _ (com_ref hr0 hc0 ha1 (by omega))|(rw [i1,i2,show(x9-f).toNat=n.toNat by omega];exact congrArg _ (com_yes hr0 hc0 ha3))) (hw.res 0)),hw.frA⟩
   all_goals (first|exact(com_e1 (by omega)).symm|exact(com_e2 (by omega) (by omega)).symm|exact(com_e3 hr0 hc0 ha1 (by omega)).symm|exact(com_e4 hr0 hc0 ha3).symm)
  ·
   have hc0:=hb2;obtain⟨d,hd,hO,hbw⟩:=hS.mem.openA;replace hS:=hS.to hO;clear hO;have hcnt:=countTo_le m.com m.cap;have hW:Words d.ws d.nw m.cap m.com:=hd.set;have hcl:m.cap≤1048576:=hd.capLe;have hrl:m.refuse<2^63:=hd.refuseLe;refine hS.regS [0,0,0,0,0,3,3,3,3,3,80,0] [0,1,2] fun _=>seg [(24,vb (m.armed&&(((m.refuse:Int):Int)==0)))] zn3 [.p (((m.armed=true)∧True)→AllP [(b:Nat)=b]),.e b] ⟨(fun⟨hc0,_⟩=>by replace hc0:=nrm hc0;exact⟨rfl,trivial⟩),tv⟩ fun ac wd hS=>?_;refine hS.condC (m.armed&&(((m.refuse:Int):Int)==0)) (fun hb3o hb3=>?_) (fun hb3o hb3=>?_)
   ·
    obtain⟨ha1,ha2⟩:=hb3;refine hS.regS [0,0,0,0] [] fun _=>seg [] [(0,some (b,.cells [sc d.bp 0 m.cap m.cap,vi (m.cap:Int),sc d.bw d.ow d.nw d.cw,vi ((countTo m.com m.cap:Nat):Int),vb false,vi (m.refuse:Int)] d.TA)),(1,none),(2,none)] [.e b] tv fun ac wd hS=>?_;refine hS.regS [0] [] (sg [(6,vi 4)] zn3 fun ac wd hS=>?_);refine wp_ret ?_;refine zpc ?_;refine zpr ?_;replace hS:=hS.to (WS.closeA (cap:=m.cap) (cnt:=(countTo m.com m.cap)) (refuse:=m.refuse) (com:=m.com) (mem:=m.mem) (pb:=d.pb) (Fq:=(Fp m.cap m.com d.pb)) hS.mem 0 1 2 b d.bp d.bw d.ow d.nw d.cw false d.TA d.TP d.ws hW hcl hrl hbw rfl);refine St.retC 0 hS (vi 4) [] tv fun hw=>?_;refine⟨(fun k=>k=b∨k=d.bp∨k=d.bw∨(Fp m.cap m.com d.pb) k),retd (vint ?_),(res_eq (r:=arR b (fun k=>k=b∨k=d.bp∨k=d.bw∨(Fp m.cap m.com d.pb) k) (⟨m.cap,m.com,m.mem,false,m.refuse⟩)) (by first|exact congrArg _ (com_no (by omega))|exact congrArg _ (com_ref hr0 hc0 ha1 (by omega))|(rw [i1,i2,show(x9-f).toNat=n.toNat by omega];exact congrArg _ (com_yes hr0 hc0 ha3))) (hw.res 0)),hw.frA⟩
    all_goals (first|exact(com_e1 (by omega)).symm|exact(com_e2 (by omega) (by omega)).symm|exact(com_e3 hr0 hc0 ha1 (by omega)).symm|exact(com_e4 hr0 hc0 ha3).symm)
   ·
    have ha3:¬(m.armed=true∧m.refuse=0):=fun q=>by rcases hb3 with h|h;rw [q.1]at h;cases h;omega
    refine wp_skip ?_;refine zpb ?_;refine zpt ?_;refine hS.regS [0,0,0,0,0,20,fx 0 (vi ((m.refuse-1:Nat):Int)),0,0,0] [0,1,2] fun _=>seg [] [(0,some (b,.cells [sc d.bp 0 m.cap m.cap,vi (m.cap:Int),sc d.bw d.ow d.nw d.cw,vi ((countTo m.com m.cap:Nat):Int),vb m.armed,vi ((m.refuse-1:Nat):Int)] d.TA)),(1,none),(2,none)] [.e b,.p ((vi (imax 0 ((m.refuse:Int)-1)):Value)=vi ((m.refuse-1:Nat):Int)),.p (fit .i64 ((m.refuse:Int)-1)),.e b] ⟨(vint (refuse_dec _)),zf6 (by omega),tv⟩ fun ac wd hS=>?_;refine wp_seq ?_;refine hS.regS [0,0] [0,1,2] (sg [(9,vi f)] zn3 fun ac wd hS=>?_);refine wp_block ?_;obtain⟨hr1,hr2,hr3,hr4,hr5⟩:=row_facts hr0;have hfree:=com_free hr0 hc0;refine St.loopC (σ:=Int×(Nat→Prop)×(Nat→Bool)×(Nat→UInt8)×(Nat→Nat)) (fun(x:Int×(Nat→Prop)×(Nat→Bool)×(Nat→UInt8)×(Nat→Nat))=>match x with|(x9,Fx,comx,memx,pbx)=>⟨[(0,[],pt b 0),(1,[],vi f),(2,[],vi n),(9,[],vi x9)],[(b,.cells [sc d.bp 0 m.cap m.cap,vi (m.cap:Int),sc d.bw d.ow d.nw d.cw,vi ((countTo m.com m.cap:Nat):Int),vb m.armed,vi ((m.refuse-1:Nat):Int)] d.TA),(d.bp,.row d.TP m.cap m.cap (pagesV comx pbx 0)),(d.bw,.fn d.ow (d.ow+d.nw) (u64s d.ws d.ow))],[pgR 0 Fx (⟨m.cap,comx,memx,pbx⟩)],(f≤x9∧x9≤f+n)∧(comx=setR m.com f.toNat (x9-f).toNat true)∧(memx=zeroP m.mem f.toNat (x9-f).toNat)∧True,Int.toNat (f+n-x9)⟩) (f,(Fp m.cap m.com d.pb),m.com,m.mem,d.pb) ⟨(by first|omega|(rw [show(f-f).toNat=0 by omega];first|exact(setR_none _ _ _).symm|exact(zeroP_none _ _).symm)),(by first|omega|(rw [show(f-f).toNat=0 by omega];first|exact(setR_none _ _ _).symm|exact(zeroP_none _ _).symm)),(by first|omega|(rw [show(f-f).toNat=0 by omega];first|exact(setR_none _ _ _).symm|exact(zeroP_none _ _).symm)),trivial⟩ hS ?_;clear hS;rintro⟨x9,Fx,comx,memx,pbx⟩ ⟨i0,i1,i2,-⟩ ac wd hS;replace i0:f≤x9∧x9≤f+n:=i0;replace i1:comx=setR m.com f.toNat (x9-f).toNat true:=i1;replace i2:memx=zeroP m.mem f.toNat (x9-f).toNat:=i2;refine wp_seq ?_;refine hS.regS [0,0,0,20,0] [0,1,2,9] fun _=>seg [(53,vb (decide ((x9:Int)<(f+n))))] zn3 [.p (fit .i64 (f+n))] ⟨zf6 (by omega),tv⟩ fun ac wd hS=>?_;refine hS.condC (decide ((x9:Int)<(f+n))) (fun hb4o hb4=>?_) (fun hb4o hb4=>?_)
    ·
     refine wp_skip ?_;refine zpt ?_;refine wp_seq ?_;refine wp_block ?_;refine hS.regC [0,0,0,0,0,50,10,100] [0,1,2,9] fun ν14=>seg [] [(0,none),(1,some (d.bp,.row d.TP m.cap m.cap (fun x=>if x=Int.toNat x9 then pt (ν14 0) 0 else(pagesV comx pbx 0) x))),(2,none),(3,some ((ν14 0),.row 126 4096 4096 (zf Tryz.prog 126)))] [.e d.bp,.p (Int.toNat x9<m.cap),.p ((0:Int)≤x9∧(x9:Int)<(m.cap:Int)),.p ((4096:Nat)=4096),.e b] ⟨(by omega),(by omega),rfl,tv⟩ fun ac wd hS=>?_;replace hS:=hS.to (hS.mem.tellR 1 (b:=d.bp) (e:=d.TP) (m:=m.cap) (tot:=m.cap) (f:=(fun x=>if x=Int.toNat x9 then pt (ν14 0) 0 else(pagesV comx pbx 0) x)) (pagesV (setB comx x9.toNat true) (putN pbx x9.toNat (ν14 0)) 0) (fun o ho=>pagesV_putv comx pbx x9.toNat (ν14 0) o));replace hS:=hS.to (hS.mem.tellR 3 (b:=(ν14 0)) (e:=126) (m:=4096) (tot:=4096) (f:=(zf Tryz.prog 126)) (bytes (fun _=>0) 0) (fun o ho=>zf_page126 o ho));refine zpb ?_;refine zpt ?_;refine hS.regC [0,20,0] [0,1,2] fun _=>seg [(9,vi (x9+1))] zn4 [.p (fit .i64 (x9+1))] ⟨zf6 (by omega),tv⟩ fun ac wd hS=>?_;replace hS:=hS.to (WS.absorb (H':=[(b,.cells [sc d.bp 0 m.cap m.cap,vi (m.cap:Int),sc d.bw d.ow d.nw d.cw,vi ((countTo m.com m.cap:Nat):Int),vb m.armed,vi ((m.refuse-1:Nat):Int)] d.TA),(d.bp,.row d.TP m.cap m.cap (pagesV (setB comx x9.toNat true) (putN pbx x9.toNat (ν14 0)) 0)),(d.bw,.fn d.ow (d.ow+d.nw) (u64s d.ws d.ow))]) hS.mem 3 (ν14 0) x9.toNat 126 (fun _=>0) [0,1,2] (by omega) (by rw [i1];exact com_next hr0 (by omega) (by omega) hfree));exact zpt (hS.next ((x9+1),(fun k=>Fx k∨k=(ν14 0)),(setB comx x9.toNat true),(putPg memx x9.toNat (fun _=>0)),(putN pbx x9.toNat (ν14 0))) ⟨(by first|omega|assumption|(simp;done)|(simp;omega)),(by rw [i1];exact comX_step (by omega) (by omega)),(by rw [i2];exact memX_step (by omega) (by omega)),tv⟩ (by dsimp only;omega))
    ·
     refine wp_exit ?_;refine zpe ?_;refine zpe ?_;refine zph ?_;refine zpt ?_;refine zwq ?_;refine hS.opsC 7 [0,0,0,0,0,0,0] [0,2] fun _=>seg [(64,pt b 0),(68,.agg #[vi (m.cap:Int),sc d.bw d.ow d.nw d.cw]),(69,vi f),(70,vi n)] zn3 [.e b,.e b] tv fun ac wd hS=>?_;refine hS.callC 103 #[.agg #[vi (m.cap:Int),sc d.bw d.ow d.nw d.cw],vi f,vi n] (bits_With d.bw d.ow d.cw d.nw d.ws m.cap f n m.com _ (hS.mem.get 2 d.bw (.fn d.ow (d.ow+d.nw) (u64s d.ws d.ow))) (by first|assumption|omega|(simp_all;done)|(simp_all;omega)) (by first|assumption|omega|(simp_all;done)|(simp_all;omega))) ?_;rintro _ wd ⟨g25,o26,c27,ws28,rfl,hW29,hog0,hoh0,hF⟩;have ho10:g25=d.bw∨w.heap.size≤g25:=by rcases hog0 with hx|hx;rw [hx];exact(.inl rfl);exact .inr (Nat.le_trans hS.mem.fr.size hx)
     refine⟨.tuple #[.agg #[vi (m.cap:Int),sc g25 o26 d.nw c27],vi (trnE m.cap f n)],rfl,?_⟩;replace hS:=(hS.to (hS.mem.outs hF [(g25,.fn o26 (o26+d.nw) (u64s ws28 o26))] ⟨⟨rfl,hoh0,hog0.imp (fun e=>⟨2,.fn d.ow (d.ow+d.nw) (u64s d.ws d.ow),by rw [e];rfl,rfl⟩) id⟩,trivial⟩)).put (d:=71) (v:=.tuple #[.agg #[vi (m.cap:Int),sc g25 o26 d.nw c27],vi (trnE m.cap f n)]) (by decide);clear hF;refine hS.opsC 6 [0,0,0,0,0,0] [0,2] fun _=>seg [] [(0,some (b,.cells [sc d.bp 0 m.cap m.cap,vi (m.cap:Int),sc g25 o26 d.nw c27,vi ((countTo m.com m.cap:Nat):Int),vb m.armed,vi ((m.refuse-1:Nat):Int)] d.TA)),(1,none),(2,none),(3,none)] [.e b,.e b] tv fun ac wd hS=>?_;refine zlq ?_;refine hS.regS [0,0,0,0,0,fx 20 (vi ((countTo m.com m.cap+n.toNat:Nat):Int)),0,0,0] [] fun _=>seg [] [(0,some (b,.cells [sc d.bp 0 m.cap m.cap,vi (m.cap:Int),sc g25 o26 d.nw c27,vi ((countTo m.com m.cap+n.toNat:Nat):Int),vb m.armed,vi ((m.refuse-1:Nat):Int)] d.TA)),(1,none),(2,none),(3,none)] [.e b,.p ((vi (((countTo m.com m.cap:Nat):Int)+n):Value)=vi ((countTo m.com m.cap+n.toNat:Nat):Int)),.p (fit .i64 (((countTo m.com m.cap:Nat):Int)+n)),.e b] ⟨(vint (add_nat (by omega))),zf6 (by omega),tv⟩ fun ac wd hS=>?_;refine hS.regS [0] [] (sg [(6,vi 0)] zn4 fun ac wd hS=>?_);refine wp_ret ?_;replace hS:=hS.to (WS.closeA (cap:=m.cap) (cnt:=(countTo m.com m.cap+n.toNat)) (refuse:=(m.refuse-1)) (com:=comx) (mem:=memx) (pb:=pbx) (Fq:=Fx) hS.mem 0 1 3 b d.bp g25 o26 d.nw c27 m.armed d.TA d.TP ws28 (by rw [i1,show(x9-f).toNat=n.toNat by omega];exact(trn_yes hr4)▸‹Words _ _ _ (trn m.com m.cap f n true)›) hcl (by omega) (ho10.elim (fun e=>e▸hbw) Or.inr) (by rw [i1,show(x9-f).toNat=n.toNat by omega];exact cnt_up hr0 hc0));refine St.retC 0 hS (vi 0) [] tv fun hw=>?_;refine⟨(fun k=>k=b∨k=d.bp∨k=g25∨Fx k),retd (vint ?_),(res_eq (r:=arR b (fun k=>k=b∨k=d.bp∨k=g25∨Fx k) (⟨m.cap,comx,memx,m.armed,m.refuse-1⟩)) (by first|exact congrArg _ (com_no (by omega))|exact congrArg _ (com_ref hr0 hc0 ha1 (by omega))|(rw [i1,i2,show(x9-f).toNat=n.toNat by omega];exact congrArg _ (com_yes hr0 hc0 ha3))) (hw.res 0)),hw.frA⟩
     all_goals (first|exact(com_e1 (by omega)).symm|exact(com_e2 (by omega) (by omega)).symm|exact(com_e3 hr0 hc0 ha1 (by omega)).symm|exact(com_e4 hr0 hc0 ha3).symm)
theorem ar_Decommit (b:Nat)(F:Nat→Prop)(m:AM)(f:Int)(n:Int)(w:World)(hr:(arR b F m).R w):
    Calls Tryz.prog 78 #[pt b 0,vi f,vi n] w fun e w'=>∃(F':Nat→Prop),e=.returned (vi (decE m f n))∧(arR b F' (decM m f n)).R w'∧Fr w w' F F':=by
 refine enter (args:=[pt b 0,vi f,vi n]) (D:=F) (A:=[arR b F m]) Tryz.func78 rfl 54 rfl [] (WS.startA (r:=arR b F m) hr trivial trivial) fun ac hS=>?_;refine hS.regS [0] [0,1,2] (sg [] [] fun ac wd hS=>?_);refine wp_seq ?_;refine zwq ?_;refine hS.opsC 3 [0,0,0] [0,1,2] (sg [(10,pt b 0),(11,vi f),(12,vi n)] [] fun ac wd hS=>?_);refine hS.call0 102 #[pt b 0,vi f,vi n] 13 (ar_row b F m f n _ (hS.mem.res 0)) fun ac wd hS=>?_;refine hS.opsC 5 [0,0,0,0,0] [0,1,2] (sg [(7,vi (rowC m f n)),(8,vi (rowE m f n))] [] fun ac wd hS=>?_);refine zlq ?_;refine wp_block ?_;refine hS.regS [0,0,0] [0,1,2,7,8] (sg [(16,vb (((rowE m f n):Int)!=0))] [] fun ac wd hS=>?_);refine hS.condC (((rowE m f n):Int)!=0) (fun hb1o hb1=>?_) (fun hb1o hb1=>?_)
 ·
  refine hS.regS [0,0] [] (sg [(6,vi (rowE m f n))] [] fun ac wd hS=>?_);refine wp_ret ?_;refine zpc ?_;refine zpr ?_;refine St.retC 0 hS (vi (rowE m f n)) [] tv fun hw=>?_;refine⟨F,retd (vint ?_),(res_eq (r:=arR b F m) (by first|exact congrArg _ (dec_no (by omega))|exact congrArg _ (dec_yes hr0 hc0)) (hw.res 0)),hw.frA⟩
  all_goals (first|exact(dec_e1 (by omega)).symm|exact(dec_e2 (by omega) (by omega)).symm|exact(dec_e3 hr0 hc0).symm)
 ·
  have hr0:=hb1;refine hS.regS [0,0,0,0] [0,1,2] (sg [(20,vb (decide (((rowC m f n):Int)<n)))] [] fun ac wd hS=>?_);refine hS.condC (decide (((rowC m f n):Int)<n)) (fun hb2o hb2=>?_) (fun hb2o hb2=>?_)
  ·
   refine hS.regS [0] [] (sg [(6,vi 8)] [] fun ac wd hS=>?_);refine wp_ret ?_;refine zpc ?_;refine zpr ?_;refine St.retC 0 hS (vi 8) [] tv fun hw=>?_;refine⟨F,retd (vint ?_),(res_eq (r:=arR b F m) (by first|exact congrArg _ (dec_no (by omega))|exact congrArg _ (dec_yes hr0 hc0)) (hw.res 0)),hw.frA⟩
   all_goals (first|exact(dec_e1 (by omega)).symm|exact(dec_e2 (by omega) (by omega)).symm|exact(dec_e3 hr0 hc0).symm)
  ·
   have hc0:=hb2;obtain⟨hr1,hr2,hr3,hr4,hr5⟩:=row_facts hr0;refine wp_skip ?_;refine zpb ?_;refine zpt ?_;obtain⟨d,hd,hO,hbw⟩:=hS.mem.openA;replace hS:=hS.to hO;clear hO;have hcnt:=countTo_le m.com m.cap;have hW:Words d.ws d.nw m.cap m.com:=hd.set;have hcl:m.cap≤1048576:=hd.capLe;have hrl:m.refuse<2^63:=hd.refuseLe;refine zwq ?_;refine hS.opsC 9 [0,0,0,0,0,0,0,20,fx 10 (sc d.bp f.toNat n.toNat (m.cap-f.toNat))] [0,1,2] fun _=>seg [(32,sc d.bp f.toNat n.toNat (m.cap-f.toNat))] zn3 [.p ((sc d.bp (sadd m.cap (Int.toNat (f:Int)) 0 1) (Int.toNat ((f+n):Int)-Int.toNat (f:Int)) (m.cap-Int.toNat (f:Int)):Value)=sc d.bp f.toNat n.toNat (m.cap-f.toNat)),.p (0≤(f:Int)∧(f:Int)≤((f+n):Int)∧((f+n):Int)≤(m.cap:Int)∧m.cap≤m.cap),.p (fit .i64 (f+n)),.e b] ⟨(by rw [sadd_ne (by omega),show(0:Nat)+Int.toNat (f:Int)*1=f.toNat by omega,show Int.toNat ((f+n):Int)-Int.toNat (f:Int)=n.toNat by omega]),(by omega),zf6 (by omega),tv⟩ fun ac wd hS=>?_;refine Runs1.list ?_;obtain⟨i_,hi_,hz_,hs_,hb_⟩:=info_get (P:=Tryz.prog) (e:=125) (z:=pnil) (s:=1) (b:=8) (by kernel_rfl);refine St.clearR hS (.tmp 32) 97 rfl rfl Tryz.underlying97 hi_ hz_ hs_ rfl rfl (b:=d.bp) (off:=f.toNat) (k:=n.toNat) (cp:=(m.cap-f.toNat)) (m:=m.cap) (tot:=m.cap) (e2:=d.TP) (f:=(pagesV m.com d.pb 0)) 1 (by omega) (by omega) fun wd hS=>?_;replace hS:=hS.to (hS.mem.tellR 1 (b:=d.bp) (e:=d.TP) (m:=m.cap) (tot:=m.cap) (f:=(segV (pagesV m.com d.pb 0) f.toNat n.toNat (fun _=>pnil))) (pagesV (setR m.com f.toNat n.toNat false) d.pb 0) (fun o ho=>pagesV_clear m.com d.pb f.toNat n.toNat o));refine zlq ?_;replace hS:=hS.to (WS.less (com':=(setR m.com f.toNat n.toNat false)) hS.mem (fun i hi h=>setR_sub h));refine zwq ?_;refine hS.opsC 7 [0,0,0,0,0,0,0] [0,2] fun _=>seg [(34,pt b 0),(38,.agg #[vi (m.cap:Int),sc d.bw d.ow d.nw d.cw]),(39,vi f),(40,vi n)] zn3 [.e b,.e b] tv fun ac wd hS=>?_;refine hS.callC 123 #[.agg #[vi (m.cap:Int),sc d.bw d.ow d.nw d.cw],vi f,vi n] (bits_Without d.bw d.ow d.cw d.nw d.ws m.cap f n m.com _ (hS.mem.get 2 d.bw (.fn d.ow (d.ow+d.nw) (u64s d.ws d.ow))) (by first|assumption|omega|(simp_all;done)|(simp_all;omega)) (by first|assumption|omega|(simp_all;done)|(simp_all;omega))) ?_;rintro _ wd ⟨g23,o24,c25,ws26,rfl,hW27,hog0,hoh0,hF⟩;have ho8:g23=d.bw∨w.heap.size≤g23:=by rcases hog0 with hx|hx;rw [hx];exact(.inl rfl);exact .inr (Nat.le_trans hS.mem.fr.size hx)
   refine⟨.tuple #[.agg #[vi (m.cap:Int),sc g23 o24 d.nw c25],vi (trnE m.cap f n)],rfl,?_⟩;replace hS:=(hS.to (hS.mem.outs hF [(g23,.fn o24 (o24+d.nw) (u64s ws26 o24))] ⟨⟨rfl,hoh0,hog0.imp (fun e=>⟨2,.fn d.ow (d.ow+d.nw) (u64s d.ws d.ow),by rw [e];rfl,rfl⟩) id⟩,trivial⟩)).put (d:=41) (v:=.tuple #[.agg #[vi (m.cap:Int),sc g23 o24 d.nw c25],vi (trnE m.cap f n)]) (by decide);clear hF;refine hS.opsC 6 [0,0,0,0,0,0] [0,2] fun _=>seg [] [(0,some (b,.cells [sc d.bp 0 m.cap m.cap,vi (m.cap:Int),sc g23 o24 d.nw c25,vi ((countTo m.com m.cap:Nat):Int),vb m.armed,vi (m.refuse:Int)] d.TA)),(1,none),(2,none),(3,none)] [.e b,.e b] tv fun ac wd hS=>?_;refine zlq ?_;refine hS.regS [0,0,0,0,0,fx 20 (vi ((countTo m.com m.cap-n.toNat:Nat):Int)),0,0,0] [] fun _=>seg [] [(0,some (b,.cells [sc d.bp 0 m.cap m.cap,vi (m.cap:Int),sc g23 o24 d.nw c25,vi ((countTo m.com m.cap-n.toNat:Nat):Int),vb m.armed,vi (m.refuse:Int)] d.TA)),(1,none),(2,none),(3,none)] [.e b,.p ((vi (((countTo m.com m.cap:Nat):Int)-n):Value)=vi ((countTo m.com m.cap-n.toNat:Nat):Int)),.p (fit .i64 (((countTo m.com m.cap:Nat):Int)-n)),.e b] ⟨(vint (by have:=(cnt_down hr0 hc0).2;omega)),zf6 (by omega),tv⟩ fun ac wd hS=>?_;refine hS.regS [0] [] (sg [(6,vi 0)] zn4 fun ac wd hS=>?_);refine wp_ret ?_;replace hS:=hS.to (WS.closeA (cap:=m.cap) (cnt:=(countTo m.com m.cap-n.toNat)) (refuse:=m.refuse) (com:=(setR m.com f.toNat n.toNat false)) (mem:=m.mem) (pb:=d.pb) (Fq:=(Fp m.cap (setR m.com f.toNat n.toNat false) d.pb)) hS.mem 0 1 3 b d.bp g23 o24 d.nw c25 m.armed d.TA d.TP ws26 ((trn_yes hr4)▸‹Words _ _ _ (trn m.com m.cap f n false)›) hcl hrl (ho8.elim (fun e=>e▸hbw) Or.inr) (cnt_down hr0 hc0).1);refine St.retC 0 hS (vi 0) [] tv fun hw=>?_;refine⟨(fun k=>k=b∨k=d.bp∨k=g23∨(Fp m.cap (setR m.com f.toNat n.toNat false) d.pb) k),retd (vint ?_),(res_eq (r:=arR b (fun k=>k=b∨k=d.bp∨k=g23∨(Fp m.cap (setR m.com f.toNat n.toNat false) d.pb) k) (⟨m.cap,(setR m.com f.toNat n.toNat false),m.mem,m.armed,m.refuse⟩)) (by first|exact congrArg _ (dec_no (by omega))|exact congrArg _ (dec_yes hr0 hc0)) (hw.res 0)),hw.frA⟩
   all_goals (first|exact(dec_e1 (by omega)).symm|exact(dec_e2 (by omega) (by omega)).symm|exact(dec_e3 hr0 hc0).symm)
theorem bs_append (s:ByteArray)(f:Nat→UInt8)(k:Nat):(s++bs f k).size=s.size+k:=by
  rw [ByteArray.size_append,bs_size]
theorem bs_add (f:Nat→UInt8)(n k:Nat):bs f n++bs (fun i=>f (n+i)) k=bs f (n+k):=by
  apply ByteArray.ext
  simp only [bs,ByteArray.data_append,List.append_toArray]
  rw [List.range_add,List.map_append,List.map_map]
  rfl
theorem bs_zero (f:Nat→UInt8):bs f 0=ByteArray.empty:=rfl
theorem sb_append (s t:ByteArray)(x:Nat):sb (s++t) x=if x<s.size then sb s x else sb t (x-s.size):=by
  unfold sb
  rw [ByteArray.data_append,Array.toList_append,List.getD_eq_getElem?_getD,List.getD_eq_getElem?_getD,List.getD_eq_getElem?_getD];have hl:s.data.toList.length=s.size:=Array.length_toList
  split
  · rw [List.getElem?_append_left (by omega)]
  · rw [List.getElem?_append_right (by omega),hl]
theorem thr_in {m:AM}{a n:Int}(h:thr m a n=true):inB m a n=true:=by unfold thr at h;simp at h;exact h.1
theorem thr_page {m:AM}{a n x:Int}(h:thr m a n=true)(h1:a≤x)(h2:x<a+n):Int.toNat (x/4096)<m.cap∧m.com (Int.toNat (x/4096))=true:=by
  obtain⟨g1,g2,g3,g4⟩:=inB_facts (thr_in h)
  unfold thr at h
  simp only [Bool.and_eq_true,Bool.or_eq_true,decide_eq_true_eq]at h
  have hc:cntR m.com (pg0 a) (pgN a n)=pgN a n:=h.2.resolve_left (by omega);have:=cntR_full _ _ hc (Int.toNat (x/4096)) (by unfold pg0;omega) (by unfold pg0 pgN;omega);exact⟨by omega,this⟩
def laidF (f:Nat→UInt8)(o k:Nat)(s:ByteArray)(x:Nat):UInt8:=if o≤x∧x<o+k then sb s (x-o)else f x
theorem sb_extract (s:ByteArray)(i:Nat){j:Nat}(h:i+j<s.size):sb (s.extract i s.size) j=sb s (i+j):=by
  unfold sb
  rw [ByteArray.data_extract,List.getD_eq_getElem?_getD,List.getD_eq_getElem?_getD,Array.getElem?_toList,Array.getElem?_toList,Array.getElem?_extract];have:s.data.size=s.size:=rfl;rw [if_pos (by omega)]
theorem ext_size (s:ByteArray)(i:Nat):(s.extract i s.size).size=s.size-i:=by
  rw [ByteArray.size_extract];omega
theorem ext_all (s:ByteArray):s=s.extract 0 s.size:=by
  apply ByteArray.ext
  rw [ByteArray.data_extract];exact Array.extract_size.symm
theorem ext_step {s sx:ByteArray}{n1 k n2:Nat}(h:sx=s.extract n1 s.size)(hk:n1+k≤s.size)(h2:n1+k=n2):sx.extract (min sx.size k) sx.size=s.extract n2 s.size:=by
  subst h h2;rw [ext_size,show min (s.size-n1) k=k by omega]
  apply ByteArray.ext
  simp only [ByteArray.data_extract,Array.extract_extract]
  congr 1
  omega
theorem laidF_zero (f:Nat→UInt8)(o:Nat)(s:ByteArray):f=laidF f o 0 s:=by
  funext x;unfold laidF;rw [if_neg (by omega)]
theorem setB_two {com:Nat→Bool}{i:Nat}(h:com i=true)(x:Nat):com x=setB (setB com i false) i true x:=by
  unfold setB;split
  · rename_i e;rw [e,h]
  · rfl
theorem putN_two (pb:Nat→Nat)(i x:Nat):pb x=putN pb i (pb i) x:=by
  unfold putN;split
  · rename_i e;rw [e]
  · rfl
theorem laid_step {M mx:Nat→UInt8}{s sx:ByteArray}{A n1 n2 i q k:Nat}(h:mx=laidF M A n1 s)(hs:sx=s.extract n1 s.size)(hA:A+n1=4096*i+q)(hq:q+k≤4096)(hk:n1+k≤s.size)(h2:n1+k=n2)(y:Nat):
    laidF M A n2 s y=putPg mx i (laidF (fun o=>mx (4096*i+o)) q (min sx.size k) sx) y:=by
  have hsz:min sx.size k=k:=by rw [hs,ext_size];omega
  rw [hsz]
  unfold putPg
  by_cases hp:4096*i≤y∧y<4096*i+4096
  · rw [if_pos hp]
    unfold laidF
    by_cases hq2:q≤y-4096*i∧y-4096*i<q+k
    · rw [if_pos hq2,if_pos (by omega),hs,sb_extract s n1 (by omega)]
      congr 1;omega
    · rw [if_neg hq2,h]
      unfold laidF
      dsimp only
      rw [show 4096*i+(y-4096*i)=y by omega]
      by_cases h3:A≤y∧y<A+n1
      · rw [if_pos (by omega),if_pos h3]
      · rw [if_neg (by omega),if_neg h3]
  · rw [if_neg hp,h]
    unfold laidF
    by_cases h3:A≤y∧y<A+n1
    · rw [if_pos (by omega),if_pos h3]
    · rw [if_neg (by omega),if_neg h3]
theorem thr_of {m:AM}{a n:Int}(h:chkE m a n=0):thr m a n=true:=by
  unfold chkE at h
  split at h
  · assumption
  · omega
def bytS (m:AM)(a n:Int):ByteArray:=if thr m a n then bs (fun j=>m.mem (a.toNat+j)) n.toNat else ByteArray.empty
theorem bytS_no {m:AM}{a n:Int}(h:chkE m a n≠0):ByteArray.empty=bytS m a n:=by
  unfold bytS chkE at*
  split
  · rename_i h2;rw [if_pos h2]at h;exact absurd rfl h
  · rfl
theorem bytS_yes {m:AM}{a n:Int}(h:thr m a n=true):ByteArray.empty++bs (fun j=>m.mem (a.toNat+j)) n.toNat=bytS m a n:=by
  unfold bytS
  rw [if_pos h,ByteArray.empty_append]
theorem new_apart {w:World}{b g:Nat}{F:Nat→Prop}{m:AM}(h:(arR b F m).R w)(hg:w.heap.size≤g):∀k,F k→¬one g k:=fun k hk e=>by
  have:k<w.heap.size:=(arR b F m).lt w h k hk;rw [show k=g from e]at this;omega
def laidM (m:AM)(a:Nat)(s:ByteArray):AM:=⟨m.cap,m.com,laidF m.mem a s.size s,m.armed,m.refuse⟩
def putM (m:AM)(a:Int)(s:ByteArray):AM:=if thr m a ((s.size:Nat):Int)then laidM m a.toNat s else m
theorem putM_no {m:AM}{a:Int}{s:ByteArray}(h:chkE m a ((s.size:Nat):Int)≠0):m=putM m a s:=by
  unfold putM chkE at*
  split
  · rename_i h2;rw [if_pos h2]at h;exact absurd rfl h
  · rfl
theorem putM_yes {m:AM}{a:Int}{s:ByteArray}(h:thr m a ((s.size:Nat):Int)=true):laidM m a.toNat s=putM m a s:=by
  unfold putM;rw [if_pos h]
theorem bs_step {s sx:ByteArray}{M g:Nat→UInt8}{A n1 k n2:Nat}(h:sx=s++bs (fun j=>M (A+j)) n1)(hg:∀j,j<k→g j=M (A+n1+j))(h2:n1+k=n2):sx++bs g k=s++bs (fun j=>M (A+j)) n2:=by
  subst h h2;rw [ByteArray.append_assoc,←bs_add]
  congr 2
  exact bs_congr fun j hj=>by rw [hg j hj,Nat.add_assoc]
def BufAt (e:TypeId)(w:World)(v:Value)(F:Nat→Prop)(s:ByteArray):Prop:=
  (v=vnil∧s=ByteArray.empty∧∀k,¬F k)∨∃g tot,v=sc g 0 s.size tot∧0<s.size∧HE.holds w g (.row e s.size tot (bytes (sb s) 0))∧∀k,F k↔k=g
theorem BufAt.slice {e:TypeId}{w:World}{v:Value}{F:Nat→Prop}{s:ByteArray}(h:BufAt e w v F s):∃x c,v=.slice x s.size c:=by
  rcases h with⟨rfl,rfl,_⟩|⟨g,tot,rfl,_⟩
  · exact⟨none,0,rfl⟩
  · exact⟨_,_,rfl⟩
def bufR (e:TypeId)(v:Value)(F:Nat→Prop)(s:ByteArray):Res:=⟨F,fun w=>BufAt e w v F s,fun w h k hk=>by
  rcases h with⟨_,_,h⟩|⟨g,tot,_,_,h,hF⟩
  · exact absurd hk (h k)
  · rw [(hF k).1 hk];exact h.lt,fun w w' h he=>by
  rcases h with h|⟨g,tot,h1,h2,h3,hF⟩
  · exact .inl h
  · exact .inr ⟨g,tot,h1,h2,h3.congr (he g ((hF g).2 rfl)),hF⟩⟩
def BdAt (T e:TypeId)(w:World)(b:Nat)(F:Nat→Prop)(s:ByteArray):Prop:=
  ∃p v F',HE.holds w b (.cells [p,v] T)∧(p=pnil∨p=pt b 0)∧BufAt e w v F' s∧¬F' b∧∀k,F k↔k=b∨F' k
def bdR (T e:TypeId)(b:Nat)(F:Nat→Prop)(s:ByteArray):Res:=⟨F,fun w=>BdAt T e w b F s,fun w h k hk=>by
  obtain⟨p,v,F',h1,h2,h3,h4,hF⟩:=h
  rcases(hF k).1 hk with rfl|hk
  · exact h1.lt
  · exact(bufR e v F' s).lt w h3 k hk,fun w w' h he=>by
  obtain⟨p,v,F',h1,h2,h3,h4,hF⟩:=h
  exact⟨p,v,F',h1.congr (he b ((hF b).2 (.inl rfl))),h2,(bufR e v F' s).cg w w' h3 fun k hk=>he k ((hF k).2 (.inr hk)),h4,hF⟩⟩
def goneR (b:Nat)(F:Nat→Prop)(_:Unit):Res:=⟨F,fun w=>∀k,F k→k<w.heap.size,fun _ h=>h,fun w w' h he k hk=>by
  have:=h k hk;have h2:=he k hk
  rcases Nat.lt_or_ge k w'.heap.size with h3|h3
  · exact h3
  · rw [Array.getElem?_eq_none h3,Array.getElem?_eq_getElem this]at h2;cases h2⟩
section
variable {P:Program}{c:Cx}{n:Nat}{E:Env}{H:Heap}{A:List Res}{a:Act}{w:World}{o:Oper}
theorem WS.toRes (h:WS c H A w)(j:Nat){g:Nat}{x:HE}(hj:H[j]? =some (g,x))(hx:x.own=true)(l:List Nat){H':Heap}(hp:pickH H l=some H')(hd:distinct l=true)(hnl:l.all (fun i=> !Nat.beq i j)=true)
    {r:Res} (hr:r.R w) (hF:∀k,r.F k→k=g):WS c H' (A++[r]) w:=by
  have hq:=h.perm l hp hd;have hne:=pick_ne h hp hj hx hnl
  have hin:∀k,inF (A++[r]) k→inF A k∨k=g:=fun k hk=>by
    obtain⟨q,hq1,hq2⟩:=inF_iff.1 hk
    rcases List.mem_append.1 hq1 with h1|h1
    · exact .inl (inF_iff.2 ⟨q,h1,hq2⟩)
    · obtain rfl:=List.mem_singleton.1 h1;exact .inr (hF k hq2)
  refine⟨hq.heap,hq.apart,hq.mine,fun e he hk=>?_,⟨fun q hq1=>?_,?_⟩,h.fr.to (fun k hk=>.inl hk) (fun k hk=>?_)⟩
  · rcases hin _ hk with h1|h1
    · exact hq.free e he h1
    · exact hne e he h1
  · rcases List.mem_append.1 hq1 with h1|h1
    · exact h.ars.each q h1
    · obtain rfl:=List.mem_singleton.1 h1;exact hr
  · rw [List.pairwise_append]
    refine⟨h.ars.apart,List.pairwise_singleton _ _,fun p hp1 q hq1 k hk1 hk2=>?_⟩;obtain rfl:=List.mem_singleton.1 hq1;obtain rfl:=hF k hk2;exact h.free _ (List.mem_of_getElem? hj) (inF_iff.2 ⟨p,hp1,hk1⟩)
  · rcases hin k hk with h1|h1
    · exact h.fr.foot k h1
    · rw [h1];exact(h.mine _ (List.mem_of_getElem? hj) hx).symm
theorem WS.bdNew (h:WS c H A w)(j b:Nat)(T e:TypeId)(l:List Nat){H':Heap}(hj:H[j]? =some (b,.cells [pnil,vnil] T):=by as_aux_lemma=>kernel_rfl)(hp:pickH H l=some H':=by as_aux_lemma=>kernel_rfl)(hd:distinct l=true:=by decide)(hnl:l.all (fun i=> !Nat.beq i j)=true:=by decide):
    WS c H' (A++[bdR T e b (K.one b) ByteArray.empty]) w:=
  h.toRes j hj rfl l hp hd hnl ⟨pnil,vnil,no,h.heap _ (List.mem_of_getElem? hj),.inl rfl,.inl ⟨rfl,rfl,fun _ h=>h⟩,(fun h=>h),fun k=>⟨.inl,fun h=>h.elim id (fun h=>h.elim)⟩⟩ (fun k hk=>hk)
theorem St.conv1 {K:Act→World→Prop}(hS:St c n E H A a w)(x:Operand)(t t2:TypeId)(ho:o.op=.convert t t2 x){d:Nat}(hd:o.dst=some d)(hdn:d<n){u v:Value}(hr:(convert t t2 u).run P w=.ok v w)
    (h:∀a',St c n (putE E d [] v) H A a' w→K a' w) (hok:okO E [] x=true:=by as_aux_lemma=>kernel_rfl) (hx:rho E x=u:=by as_aux_lemma=>kernel_rfl):Runs1 P o a w K:=by
  refine⟨v,w,?_,?_⟩
  · simp only [execOp,ho,eval1 hS hok,hx]
    rw [runBind (w':=w) (x:=v) hr]
    rfl
  · rw [hd];exact h _ (hS.put hdn)
theorem St.bin1 {K:Act→World→Prop}(hS:St c n E H A a w)(q:BinOp)(x y:Operand)(t t2:TypeId)(ho:o.op=.binOp q t x y t2){d:Nat}(hd:o.dst=some d)(hdn:d<n){u v r:Value}(hr:(binOp q t u v).run P w=.ok r w)(hg:eqGuard q t x y u v=pure ())
    (h:∀a',St c n (putE E d [] r) H A a' w→K a' w) (hok:okO E [] x=true:=by as_aux_lemma=>kernel_rfl) (hok2:okO E [] y=true:=by as_aux_lemma=>kernel_rfl) (hx:rho E x=u:=by as_aux_lemma=>kernel_rfl) (hy:rho E y=v:=by as_aux_lemma=>kernel_rfl):Runs1 P o a w K:=by
  refine⟨r,w,?_,?_⟩
  · have e1:a.eval x=u:=by rw [eval1 hS hok,hx]
    have e2:a.eval y=v:=by rw [eval1 hS hok2,hy]
    simp only [execOp,ho,e1,e2]
    rw [runBind (w':=w) (x:=r) (by rw [hg];simpa using hr)]
    rfl
  · rw [hd];exact h _ (hS.put hdn)
def optOk (E:Env):Option Operand→Bool
  |none=>true
  |some x=>okO E [] x
theorem optInt_eval (hS:St c n E H A a w){d:Int}{x:Option Operand}(h:optOk E x=true):optInt a.eval d x=optInt (rho E) d x:=by
  cases x with
  |none=>rfl
  |some y=>simp only [optInt,eval1 hS h]
theorem St.slcP {K:Act→World→Prop}(hS:St c n E H A a w)(t:TypeId)(x:Operand)(lo hi:Option Operand)(ho:o.op=.slice t x lo hi none){d:Nat}(hd:o.dst=some d)(hdn:d<n){N:Nat}{e:TypeId}{i:TypeInfo}(ht:P.underlying t=some (.array N e))(hi1:P.info? e=some i)(h1:i.size=1)
    {b q k:Nat} (l u:Int) (hb:0≤l∧l≤u∧u≤(N:Int)∧l<(N:Int)) (hq:l.toNat=q) (hk:u.toNat-l.toNat=k) (h:∀a',St c n (putE E d [] (sc b q k (N-q))) H A a' w→K a' w)
    (hok:okO E [] x=true:=by as_aux_lemma=>kernel_rfl) (hx:rho E x=pt b 0:=by as_aux_lemma=>kernel_rfl) (okl:optOk E lo=true:=by as_aux_lemma=>kernel_rfl) (okh:optOk E hi=true:=by as_aux_lemma=>kernel_rfl)
    (hl:optInt (rho E) 0 lo=some l:=by as_aux_lemma=>kernel_rfl) (hu:optInt (rho E) (N:Int) hi=some u:=by as_aux_lemma=>kernel_rfl):Runs1 P o a w K:=by
  subst hq hk;refine⟨sc b l.toNat (u.toNat-l.toNat) (N-l.toNat),w,?_,?_⟩
  · have e1:a.eval x=pt b 0:=by rw [eval1 hS hok,hx]
    have e2:optInt a.eval 0 lo=some l:=by rw [optInt_eval hS okl];exact hl
    have e3:optInt a.eval (N:Int) hi=some u:=by rw [optInt_eval hS okh];exact hu
    simp only [execOp,ho,e1,Option.map_none,Instr.sliceAt,bind_assoc]
    rw [underlying_bind ht]
    simp only [Instr.sureAddr,pure_bind,bind_assoc]
    rw [sliceBounds_run (Nat.le_refl _) e2 e3 ⟨hb.1,hb.2.1,hb.2.2.1⟩]
    simp only [pure_bind]
    rw [sizeOf_bind hi1];have:¬N=l.toNat:=by omega
    rw [if_neg this,h1,Nat.mul_one,addr_add _ rfl,Nat.zero_add]
    rfl
  · rw [hd];exact h _ (hS.put hdn)
theorem St.extern1 {K:Act→World→Prop}(hS:St c n E H A a w)(f:FuncId)(x:Operand){ts:Array TypeId}(ho:o.op=.call { callee:=.value (.func f),args:=#[x],argTypes:=ts }){d:Nat}(hd:o.dst=some d)(hdn:d<n){u v:Value}(hr:(callFunc f #[u]).run P w=.ok (.value v) w)
    (h:∀a',St c n (putE E d [] v) H A a' w→K a' w) (hok:okO E [] x=true:=by as_aux_lemma=>kernel_rfl) (hx:rho E x=u:=by as_aux_lemma=>kernel_rfl):Runs1 P o a w K:=by
  refine⟨v,w,?_,?_⟩
  · have e:a.eval x=u:=by rw [eval1 hS hok,hx]
    have ef:a.eval (.func f)=Value.func (Fn.func f) #[] #[]:=rfl
    unfold execOp
    simp only [ho,resolve,invoke,Deferred.ofValue,Sem.run_bind,Sem.run_pure,Result.andThen_ok,List.map_toArray,List.map_cons,List.map_nil,e,ef]
    simpa using hr
  · rw [hd];exact h _ (hS.put hdn)
theorem HE.shape {b:Nat}{cs:List Value}{T:TypeId}(h:HE.holds w b (.cells cs T)):w.shape? b=some (T,cs.length):=by
  have h:w.heap[b]? =some (.cells cs.toArray T (0,0)):=h
  unfold World.shape?
  simp [h]
theorem sb_app {s:ByteArray}{g:Nat→UInt8}{k:Nat} :∀x,x<s.size+k→bytes (sb (s++bs g k)) 0 x=appF (bytes (sb s) 0) s.size ((List.range k).map fun j=>v8 ((g j).toNat:Int)) x:=by
  intro x hx
  unfold appF bytes
  simp only [Nat.sub_zero]
  rw [sb_append]
  split
  · rfl
  · rw [sb_bs (by omega),List.getD_eq_getElem?_getD,List.getElem?_map,List.getElem?_range (by omega)]
    rfl
theorem St.appB {K:Act→World→Prop}{v:Value}{Fv:Nat→Prop}{s:ByteArray}{e:TypeId}(hS:St c n E H [bufR e v Fv s] a w)(x y:Operand)(t:TypeId)(ho:o.op=.call { callee:=.builtin .append,args:=#[x,y],argTypes:=#[t,t] }){d:Nat}(hd:o.dst=some d)(hdn:d<n){z:Value}{i:TypeInfo}(ht:P.underlying t=some (.slice e))(hi:P.info? e=some i)(hz:i.zero=some z)(h1:i.size=1)(hby:i.bytes≤64)(hzc:z.cells.size=1)
    {b off k cp:Nat} (g:Nat→UInt8) (hg:Cells8 w b off k g) (hk:0<k) (hn:s.size+k≤2^32)
    (h:∀a' w' v' F',BufAt e w' v' F' (s++bs g k)→(∀q,q<w.heap.size→¬Fv q→¬F' q)→St c n (putE E d [] v') H [bufR e v' F' (s++bs g k)] a' w'→K a' w')
    (hok:okO E [] x=true:=by as_aux_lemma=>kernel_rfl) (hok2:okO E [] y=true:=by as_aux_lemma=>kernel_rfl) (hx:rho E x=v:=by as_aux_lemma=>kernel_rfl) (hy:rho E y=sc b off k cp:=by as_aux_lemma=>kernel_rfl):Runs1 P o a w K:=by
  have hB:BufAt e w v Fv s:=hS.mem.res 0
  have hcell:∀j u,((List.range k).map fun j=>v8 ((g j).toNat:Int))[j]? =some u→w.cell? ((⟨b,off,none⟩:Addr).add j)=some u:=by
    intro j u hj;have hjk:j<k:=by have:=(List.getElem?_eq_some_iff.1 hj).1;simpa using this
    rw [List.getElem?_map,List.getElem?_range hjk]at hj
    simp only [Option.map_some,Option.some.injEq]at hj
    subst hj;rw [addr_add _ rfl];exact hg j hjk
  have hone:∀u∈((List.range k).map fun j=>v8 ((g j).toNat:Int)),u.oneCell'=true:=by
    intro u hu;obtain⟨q,_,rfl⟩:=List.mem_map.1 hu
    rfl
  rcases hB with⟨rfl,rfl,hF⟩|⟨gb,tot,rfl,h0,hrow,hF⟩
  · have hr:=run_append_nil (P:=P) (w:=w) t o.type e i z ht hi hz ⟨b,off,none⟩ k cp _ (by simp [h1]) hcell hk (by omega) (by
      have:k*i.bytes≤2^32*64:=Nat.mul_le_mul (by simpa using hn) hby
      omega)
    have hge:=grownCap_ge w k 0 e;have es:(ByteArray.empty++bs g k).size=k:=by rw [bs_append];simp
    have hh:BufAt e (w.drew.alloc (.cells (((List.range k).map fun j=>v8 ((g j).toNat:Int)).toArray++Builtin.zeroCells z.cells (grownCap w k 0 e-k)) e (0,0))) (sc w.heap.size 0 k (grownCap w k 0 e)) (one w.heap.size) (ByteArray.empty++bs g k):=by
      refine .inr ⟨w.heap.size,grownCap w k 0 e,by rw [es],by omega,?_,fun q=>Iff.rfl⟩;rw [es];refine⟨_,alloc_at _ _,?_,hge,fun x hx=>?_⟩
      · simp only [Array.size_append,List.size_toArray,List.length_map,List.length_range,size_zeroCells,hzc];omega
      · rw [Array.getElem?_append_left (by simpa using hx)]
        have:=sb_app (s:=ByteArray.empty) (g:=g) (k:=k) x (by simpa using hx);rw [this]
        simp [appF,hx]
    refine⟨_,_,append_run ho (by rw [eval1 hS hok,eval1 hS hok2,hx,hy];exact hr),?_⟩;rw [hd]
    have hA:WS c H [bufR e (sc w.heap.size 0 k (grownCap w k 0 e)) (one w.heap.size) (ByteArray.empty++bs g k)] (w.drew.alloc (.cells (((List.range k).map fun j=>v8 ((g j).toNat:Int)).toArray++Builtin.zeroCells z.cells (grownCap w k 0 e-k)) e (0,0))):=
      hS.mem.stepA 0 rfl hh ((Fr.alloc w _).to (fun k hk=>hk.elim) (fun q hq=>.inr (by rw [show q=w.heap.size from hq];exact Nat.le_refl _)))
    exact h _ _ _ _ hh (fun q hq _ hq2=>by rw [show q=w.heap.size from hq2]at hq;omega) ((hS.to hA).put hdn)
  · obtain⟨g',tot',w',hr,hgg,hh,k1,k2,k3,k4,k5⟩:=run_app (P:=P) (w:=w) (t:=t) (e:=e) (c:=cp) o.type ht hi hz h1 hby hzc hrow (m:=k) (by simp) hcell hone hn
    have es:=bs_append s g k
    have hh2:BufAt e w' (sc g' 0 (s.size+k) tot') (one g') (s++bs g k):=by
      refine .inr ⟨g',tot',by rw [es],by omega,?_,fun q=>Iff.rfl⟩;rw [es];exact HE.row_eq hh sb_app
    refine⟨_,_,append_run ho (by rw [eval1 hS hok,eval1 hS hok2,hx,hy];exact hr),?_⟩;rw [hd];have hlt:gb<w.heap.size:=hrow.lt
    have hA:WS c H [bufR e (sc g' 0 (s.size+k) tot') (one g') (s++bs g k)] w':=
      hS.mem.stepA 0 rfl hh2 ⟨k1,k2,k3,k4,fun q hq hn=>k5 q hq (fun e=>hn ((hF q).2 e)),fun q hq=>by
        rw [show q=g' from hq]
        rcases hgg with rfl|rfl
        · exact .inl ((hF _).2 rfl)
        · exact .inr (Nat.le_refl _)⟩
    exact h _ _ _ _ hh2 (fun q hq hn hq2=>by
      rw [show q=g' from hq2]at hq hn
      rcases hgg with rfl|rfl
      · exact hn ((hF _).2 rfl)
      · omega) ((hS.to hA).put hdn)
theorem WS.bdShut {e T:TypeId}{v:Value}{Fv:Nat→Prop}{s:ByteArray}(h:WS c H [bufR e v Fv s] w)(j b:Nat)(p:Value)(l:List Nat){H':Heap}(hpp:p=pnil∨p=pt b 0)(hj:H[j]? =some (b,.cells [p,v] T):=by as_aux_lemma=>kernel_rfl)(hp:pickH H l=some H':=by as_aux_lemma=>kernel_rfl)(hd:distinct l=true:=by decide)(hnl:l.all (fun i=> !Nat.beq i j)=true:=by decide):
    WS c H' [bdR T e b (fun k=>k=b∨Fv k) s] w:=by
  have hq:=h.perm l hp hd;have hne:=pick_ne h hp hj rfl hnl;have hfree:¬Fv b:=fun hk=>h.free _ (List.mem_of_getElem? hj) (.inl hk)
  refine⟨hq.heap,hq.apart,hq.mine,fun e he hk=>?_,AllAr.one ⟨p,v,Fv,h.heap _ (List.mem_of_getElem? hj),hpp,h.res 0,hfree,fun k=>Iff.rfl⟩,h.fr.to (fun k hk=>.inl hk) (fun k hk=>?_)⟩
  · rcases hk with(h1|h1)|h1
    · exact hne e he h1
    · exact hq.free e he (.inl h1)
    · exact h1
  · rcases hk with(h1|h1)|h1
    · rw [h1];exact(h.mine _ (List.mem_of_getElem? hj) rfl).symm
    · exact h.fr.foot k (.inl h1)
    · exact h1.elim
theorem WS.bdOpen {e T:TypeId}{b:Nat}{F:Nat→Prop}{s:ByteArray}(h:WS c H [bdR T e b F s] w):∃p v Fv,(p=pnil∨p=pt b 0)∧BufAt e w v Fv s∧WS c (H++[(b,.cells [p,v] T)]) [bufR e v Fv s] w:=by
  obtain⟨p,v,Fv,h1,h2,h3,h4,hF⟩:BdAt T e w b F s:=h.res 0;refine⟨p,v,Fv,h2,h3,fun q hq=>?_,?_,fun q hq ho=>?_,fun q hq hk=>?_,AllAr.one h3,h.fr.to (fun k hk=>.inl hk) (fun k hk=>?_)⟩
  · rcases List.mem_append.1 hq with hq|hq
    · exact h.heap q hq
    · obtain rfl:=List.mem_singleton.1 hq;exact h1
  · rw [List.pairwise_append]
    refine⟨h.apart,List.pairwise_singleton _ _,fun p hp q hq ho e=>?_⟩;obtain rfl:=List.mem_singleton.1 hq;exact h.free p hp (.inl ((hF _).2 (.inl e)))
  · rcases List.mem_append.1 hq with hq|hq
    · exact h.mine q hq ho
    · obtain rfl:=List.mem_singleton.1 hq
      exact(h.fr.foot _ (.inl ((hF _).2 (.inl rfl)))).symm
  · rcases hk with hk|hk
    · rcases List.mem_append.1 hq with hq|hq
      · exact h.free q hq (.inl ((hF _).2 (.inr hk)))
      · obtain rfl:=List.mem_singleton.1 hq;exact h4 hk
    · exact hk
  · rcases hk with h1|h1
    · exact h.fr.foot k (.inl ((hF _).2 (.inr h1)))
    · exact h1.elim
theorem WS.startMM {s1 s2:Nat}{y1 y2:HE}(h1:y1.holds w s1)(h2:y2.holds w s2)(h:AllF w H)(hn1:AllN (one s1) H)(hn2:AllN (one s2) H)(hs:¬one s2 s1):WS ⟨w,orF (one s1) (one s2),[]⟩ (H++[(s1,y1)]++[(s2,y2)]) [] w:=by
  have ha:=startM_apart (y:=y1) h hn1;refine⟨fun e he=>?_,?_,fun e he ho=>?_,fun e he hf=>hf,AllAr.nil w,(Fr.refl w _).to (fun k hk=>.inl hk) (fun k hk=>hk.elim)⟩
  · rcases List.mem_append.1 he with he|he
    · rcases List.mem_append.1 he with he|he
      · exact(h.mem e he).2
      · obtain rfl:=List.mem_singleton.1 he;exact h1
    · obtain rfl:=List.mem_singleton.1 he;exact h2
  · rw [List.pairwise_append]
    refine⟨ha,List.pairwise_singleton _ _,fun p hp q hq ho e=>?_⟩;obtain rfl:=List.mem_singleton.1 hq
    rcases List.mem_append.1 hp with hp|hp
    · exact hn2.mem p hp e
    · obtain rfl:=List.mem_singleton.1 hp;exact hs e
  · rcases List.mem_append.1 he with he|he
    · rcases List.mem_append.1 he with he|he
      · rw [(h.mem e he).1]at ho;cases ho
      · obtain rfl:=List.mem_singleton.1 he;exact .inr (.inl rfl)
    · obtain rfl:=List.mem_singleton.1 he;exact .inr (.inr rfl)
theorem WS.stepMM (h:WS c H A w)(j1 j2:Nat)(hne:j2≠j1){s1 s2:Nat}{x1 y1 x2 y2:HE}{w':World}(hj1:H[j1]? =some (s1,x1))(hj2:H[j2]? =some (s2,x2))(hx1:x1.own=true)(hy1:y1.own=true)(hx2:x2.own=true)(hy2:y2.own=true)(hs1:y1.holds w' s1)(hs2:y2.holds w' s2)(hf:Fr w w' (orF (one s1) (one s2)) no):
    WS c ((H.set j1 (s1,y1)).set j2 (s2,y2)) A w':=by
  refine h.stepX hf (fun k hk=>?_) (h.ars.congr fun k hk=>hf.block k (h.ars.lt hk) fun e=>?_) (fun k hk=>.inl hk) (fun k e' he=>?_)
  · rcases hk with hk|hk
    · exact .inr ⟨_,List.mem_of_getElem? hj1,hx1,(show k=s1 from hk).symm⟩
    · exact .inr ⟨_,List.mem_of_getElem? hj2,hx2,(show k=s2 from hk).symm⟩
  · rcases e with e|e
    · exact h.free _ (List.mem_of_getElem? hj1) ((show k=s1 from e)▸hk)
    · exact h.free _ (List.mem_of_getElem? hj2) ((show k=s2 from e)▸hk)
  · rcases heap_set_cases he with⟨rfl,rfl⟩|⟨hk,he⟩
    · exact⟨_,hj2,rfl,hx2.trans hy2.symm,.inl hs2⟩
    · rcases heap_set_cases he with⟨rfl,rfl⟩|⟨hk1,he⟩
      · exact⟨_,hj1,rfl,hx1.trans hy1.symm,.inl hs1⟩
      · refine⟨e',he,rfl,rfl,.inr ⟨rfl,fun e=>?_⟩⟩
        rcases e with e|e
        · exact pairwise_get h.apart hk1 he hj1 (.inr hx1) e
        · exact pairwise_get h.apart hk he hj2 (.inr hx2) e
theorem WS.consA (h:WS c H A w)(i:Nat){r:Res}{w':World}(hi:A[i]? =some r)(hf:Fr w w' r.F no):WS c H (A.eraseIdx i) w':=by
  have h1:=h.stepA i (r':=goneR 0 no ()) hi (fun k hk=>hk.elim) hf;refine h1.dropA [] (fun q hq=>?_) ?_
  · obtain⟨j,hj1,hj2,hj3⟩:=List.mem_eraseIdx_iff_getElem?.1 hq |> fun⟨j,h1,h2⟩=>(⟨j,h1,h2,trivial⟩:∃j,j≠i∧A[j]? =some q∧True)
    refine List.mem_of_getElem? (i:=j) ?_;rw [List.getElem?_set_ne (fun e=>hj1 e.symm)];exact hj2
  · exact h.ars.apart.sublist (List.eraseIdx_sublist _ _)
theorem freeze_heap (w:World)(g k n:Nat)(h:k≠g):(w.freeze ⟨g,0,none⟩ n).heap[k]? =w.heap[k]?:=by
  unfold World.freeze
  split
  · rfl
  · simp only [Array.getElem?_modify]
    rw [if_neg (fun e=>h e.symm)]
theorem freeze_size (w:World)(g n:Nat):(w.freeze ⟨g,0,none⟩ n).heap.size=w.heap.size:=by
  unfold World.freeze
  split
  · rfl
  · simp
theorem freeze_rest (w:World)(g n:Nat):(w.freeze ⟨g,0,none⟩ n).os=w.os∧(w.freeze ⟨g,0,none⟩ n).tape=w.tape∧(w.freeze ⟨g,0,none⟩ n).output=w.output:=by
  unfold World.freeze
  split
  · exact⟨rfl,rfl,rfl⟩
  · exact⟨rfl,rfl,rfl⟩
theorem uSD_run {x:Operand}{ts:Array TypeId}(ho:o.op=.call { callee:=.builtin .unsafeSliceData,args:=#[x],argTypes:=ts }){v:Value}{w':World}(hr:(Builtin.unsafeSliceData_ ts o.type #[a.eval x]).run P w=.ok v w'):(execOp a.eval o).run P w=.ok (.value v) w':=by
  unfold execOp
  simp only [ho,resolve,invoke,builtin,Sem.run_bind,Sem.run_pure,Result.andThen_ok,List.map_toArray,List.map_cons,List.map_nil,hr]
theorem uS_run {x y:Operand}{ts:Array TypeId}(ho:o.op=.call { callee:=.builtin .unsafeString,args:=#[x,y],argTypes:=ts }){v:Value}{w':World}(hr:(Builtin.unsafeString_ ts o.type #[a.eval x,a.eval y]).run P w=.ok v w'):(execOp a.eval o).run P w=.ok (.value v) w':=by
  unfold execOp
  simp only [ho,resolve,invoke,builtin,Sem.run_bind,Sem.run_pure,Result.andThen_ok,List.map_toArray,List.map_cons,List.map_nil,hr]
theorem St.uSD {K:Act→World→Prop}(hS:St c n E H A a w)(x:Operand)(ts:Array TypeId)(ho:o.op=.call { callee:=.builtin .unsafeSliceData,args:=#[x],argTypes:=ts }){d:Nat}(hd:o.dst=some d)(hdn:d<n){p:Option Addr}{k cp:Nat}(hc:p=none∨cp≠0)
    (h:∀a',St c n (putE E d [] (.pointer p)) H A a' w→K a' w) (hok:okO E [] x=true:=by as_aux_lemma=>kernel_rfl) (hx:rho E x=.slice p k cp:=by as_aux_lemma=>kernel_rfl):Runs1 P o a w K:=by
  refine⟨.pointer p,w,uSD_run ho ?_,?_⟩
  · rw [eval1 hS hok,hx]
    cases p with
    |none=>exact Lib.run_unsafeSliceData_nil _ _ _ _ _
    |some q=>exact Lib.run_unsafeSliceData_row _ _ _ _ _ _ (hc.resolve_left (fun h=>nomatch h))
  · rw [hd];exact h _ (hS.put hdn)
theorem St.uS0 {K:Act→World→Prop}(hS:St c n E H A a w)(x y:Operand)(t t2:TypeId)(ho:o.op=.call { callee:=.builtin .unsafeString,args:=#[x,y],argTypes:=#[t,t2] }){d:Nat}(hd:o.dst=some d)(hdn:d<n){p:Option Addr}
    (h:∀a',St c n (putE E d [] (.string ByteArray.empty)) H A a' w→K a' w) (hok:okO E [] x=true:=by as_aux_lemma=>kernel_rfl) (hok2:okO E [] y=true:=by as_aux_lemma=>kernel_rfl) (hx:rho E x=.pointer p:=by as_aux_lemma=>kernel_rfl) (hy:rho E y=vi 0:=by as_aux_lemma=>kernel_rfl):Runs1 P o a w K:=by
  refine⟨.string ByteArray.empty,w,uS_run ho ?_,?_⟩
  · rw [eval1 hS hok,eval1 hS hok2,hx,hy];exact Lib.run_unsafeString_none _ _ _ _ _
  · rw [hd];exact h _ (hS.put hdn)
theorem St.uS {K:Act→World→Prop}(hS:St c n E H A a w)(x y:Operand)(t t2:TypeId)(ho:o.op=.call { callee:=.builtin .unsafeString,args:=#[x,y],argTypes:=#[t,t2] }){d:Nat}(hd:o.dst=some d)(hdn:d<n){e:TypeId}(ht:P.underlying t=some (.pointer e))(hc1:P.cellsOf e=1){g tot:Nat}{s:ByteArray}(h0:0<s.size)(hle:s.size≤9223372036854775807)
    (j:Nat) (l:List Nat) {H':Heap} (hj:H[j]? =some (g,.row e s.size tot (bytes (sb s) 0))) (hp:pickH H l=some H') (hdl:distinct l=true) (hnl:l.all (fun i=> !Nat.beq i j)=true)
    (h:∀a' w',St c n (putE E d [] (.string s)) H' A a' w'→K a' w') (hok:okO E [] x=true:=by as_aux_lemma=>kernel_rfl) (hok2:okO E [] y=true:=by as_aux_lemma=>kernel_rfl) (hx:rho E x=pt g 0:=by as_aux_lemma=>kernel_rfl) (hy:rho E y=vi ((s.size:Nat):Int):=by as_aux_lemma=>kernel_rfl):Runs1 P o a w K:=by
  have hrow:=hS.mem.heap _ (List.mem_of_getElem? hj);obtain⟨cur,hc,hsz,hmt,hf⟩:=hrow;have hl:s.data.toList.length=s.size:=Array.length_toList
  have hU:=Lib.run_unsafeString_row (P:=P) (w:=w) t t2 o.type e ht hc1 g tot (by unfold World.shape?;simp [hc,hsz]) s.data.toList (by intro h;rw [h]at hl;simp at hl;omega) (by omega) (by omega) (by
    intro q u hq;have hqs:q<s.size:=by rw [←hl];exact(List.getElem?_eq_some_iff.1 hq).1
    rw [addr_add _ rfl,Nat.zero_add]
    unfold World.cell?
    simp only [hc]
    rw [hf q hqs]
    unfold bytes sb
    rw [Nat.sub_zero,List.getD_eq_getElem?_getD,hq];rfl)
  rw [hl]at hU;have es:(⟨s.data.toList.toArray⟩:ByteArray)=s:=by simp
  rw [es]at hU;refine⟨.string s,_,uS_run ho (by rw [eval1 hS hok,eval1 hS hok2,hx,hy];exact hU),?_⟩;rw [hd];obtain⟨k1,k2,k3⟩:=freeze_rest w g s.size;exact h _ _ ((hS.to (hS.mem.turned l hp hdl hj rfl hnl k1 k2 k3 (by rw [freeze_size];exact Nat.le_refl _) (fun k _ hk=>freeze_heap w g k s.size hk))).put hdn)
theorem WS.closeL {cap cnt refuse:Nat}{com:Nat→Bool}{mem:Nat→UInt8}{pb:Nat→Nat}{Fq:Nat→Prop}(h:WS c H [pgR 0 Fq ⟨cap,com,mem,pb⟩] w)(ib ip iw:Nat)(b bp bw ow nw cw:Nat)(armed:Bool)(TA TP:TypeId)(ws:Nat→Nat)(l:List Nat){H':Heap}
    (hW:Words ws nw cap com) (hcap:cap≤1048576) (hr:refuse<2^63) (hbw:c.D bw∨c.w0.heap.size≤bw) (hc:cnt=countTo com cap)
    (hb:H[ib]? =some (b,.cells [sc bp 0 cap cap,vi (cap:Int),sc bw ow nw cw,vi (cnt:Int),vb armed,vi (refuse:Int)] TA):=by as_aux_lemma=>kernel_rfl)
    (hp:H[ip]? =some (bp,.row TP cap cap (pagesV com pb 0)):=by as_aux_lemma=>kernel_rfl) (hw:H[iw]? =some (bw,.fn ow (ow+nw) (u64s ws ow)):=by as_aux_lemma=>kernel_rfl) (hne:ib≠ip∧iw≠ib∧iw≠ip:=by decide)
    (hpk:pickH H l=some H':=by as_aux_lemma=>kernel_rfl) (hd:distinct l=true:=by decide) (hnb:l.all (fun i=> !Nat.beq i ib)=true:=by decide) (hnp:l.all (fun i=> !Nat.beq i ip)=true:=by decide) (hnw:l.all (fun i=> !Nat.beq i iw)=true:=by decide) (hown:H'.all (fun e=>e.2.own)=true:=by rfl):
    WS c H' [arR b (fun k=>k=b∨k=bp∨k=bw∨Fq k) ⟨cap,com,mem,armed,refuse⟩] w:=by
  have h1:=h.closeA ib ip iw b bp bw ow nw cw armed TA TP ws hW hcap hr hbw hc hb hp hw hne;have hq:=h.perm l hpk hd;refine⟨hq.heap,hq.apart,hq.mine,fun e he hk=>?_,h1.ars,h1.fr⟩;have hk:e.1=b∨e.1=bp∨e.1=bw∨Fq e.1:=hk.elim id (fun h=>h.elim)
  rcases hk with hk|hk|hk|hk
  · exact pick_ne h hpk hb rfl hnb e he hk
  · exact pick_ne h hpk hp rfl hnp e he hk
  · have ho:e.2.own=true:=by
      have:=List.all_eq_true.1 hown e he;exact this
    obtain⟨j,hj⟩:=List.getElem?_of_mem he;obtain⟨i,hi1,hi2⟩:=pickH_spec hpk j e hj
    have hne2:i≠iw:=by
      have:=List.all_eq_true.1 hnw i (List.mem_of_getElem? hi1);intro e;subst e;simp at this
    exact pairwise_get h.apart hne2 hi2 hw (.inl ho) hk
  · exact hq.free e he (.inl hk)
end
theorem bd_fresh (b:Nat)(v:Value)(w:World)(hm:HE.holds w b (.cells [pnil,v] 136)):
    Calls Tryz.prog 128 #[pt b 0] w fun e w'=>e=.returned (.tuple #[])∧HE.holds w' b (.cells [pt b 0,v] 136)∧Fr w w' (K.one b) no:=by
 refine enter (args:=[pt b 0]) (D:=K.one b) (A:=[]) Tryz.func128 rfl 20 rfl [(b,.cells [pnil,v] 136)] (WS.startM (H:=[]) hm trivial trivial) fun ac hS=>?_;refine hS.regS [0,0,0,0,0] [0] fun _=>seg [(6,vb true)] [(0,none)] [.e b] tv fun ac wd hS=>?_;refine hS.condT ?_;refine wp_region_lit ?_;refine hS.opsC 2 [0,0] [] (sg [(7,pt b 0),(8,pt b 0)] [(0,none)] fun ac wd hS=>?_);refine Runs1.list ?_;obtain⟨i_,hi_,_,hs_,_⟩:=info_get (P:=Tryz.prog) (e:=136) (z:=.agg #[pnil,vnil]) (s:=2) (b:=32) (by kernel_rfl);refine St.conv1 hS (.tmp 8) 134 175 rfl rfl (by decide) (u:=pt b 0) (v:=pt b 0) (Lib.run_to_unsafe _ ⟨b,0,none⟩ Tryz.underlying134 Tryz.underlying175 hi_ (by rw [hs_];decide) (HE.shape (hS.mem.get 0 b (.cells [pnil,v] 136))) (show 0<2 by decide)) fun ac hS=>?_;refine Runs1.list ?_;refine St.extern1 hS 142 (.tmp 9) rfl rfl (by decide) (u:=pt b 0) (v:=pt b 0) (by rw [run_callFunc_extern Tryz.func142 (by kernel_rfl) (by kernel_rfl) (by kernel_rfl) (e:=Extern.AbiNoEscape.same) (by kernel_rfl),Lib.run_noEscape];rfl) fun ac hS=>?_;refine Runs1.list ?_;obtain⟨i_,hi_,_,hs_,_⟩:=info_get (P:=Tryz.prog) (e:=136) (z:=.agg #[pnil,vnil]) (s:=2) (b:=32) (by kernel_rfl);refine St.conv1 hS (.tmp 10) 175 134 rfl rfl (by decide) (u:=pt b 0) (v:=pt b 0) (Lib.run_from_unsafe _ ⟨b,0,none⟩ Tryz.underlying175 Tryz.underlying134 hi_ (HE.shape (hS.mem.get 0 b (.cells [pnil,v] 136))) (by as_aux_lemma=>kernel_rfl)) fun ac hS=>?_;refine hS.opsC 3 [0,0,0] [] fun _=>seg [] [(0,some (b,.cells [pt b 0,v] 136))] [.e b] tv fun ac wd hS=>?_;refine zln ?_;refine St.fallC 0 hS (.tuple #[]) [] tv fun hw=>?_;refine⟨retd rfl,(hw.get 0 b (.cells [pt b 0,v] 136)),hw.fr0⟩
theorem bd_used (b:Nat)(v:Value)(w:World)(hm:HE.holds w b (.cells [pt b 0,v] 136)):
    Calls Tryz.prog 128 #[pt b 0] w fun e w'=>e=.returned (.tuple #[])∧HE.holds w' b (.cells [pt b 0,v] 136)∧Fr w w' (K.one b) no:=by
 refine enter (args:=[pt b 0]) (D:=K.one b) (A:=[]) Tryz.func128 rfl 20 rfl [(b,.cells [pt b 0,v] 136)] (WS.startM (H:=[]) hm trivial trivial) fun ac hS=>?_;refine hS.regS [0,0,0,0,0] [0] fun _=>seg [(6,vb false)] [(0,none)] [.e b] tv fun ac wd hS=>?_;refine hS.condF ?_;refine zwq ?_;refine hS.opsC 5 [0,0,0,0,0] [] fun _=>seg [(17,pt b 0),(18,pt b 0)] [(0,none)] [.e b] tv fun ac wd hS=>?_;refine Runs1.list ?_;obtain⟨i_,hi_,_,_,_⟩:=info_get (P:=Tryz.prog) (e:=136) (z:=.agg #[pnil,vnil]) (s:=2) (b:=32) (by kernel_rfl);refine St.bin1 hS .neq (.tmp 17) (.tmp 18) 134 134 rfl rfl (by decide) (u:=pt b 0) (v:=pt b 0) (r:=vb false) (Lib.run_neq_ptr_same _ ⟨b,0,none⟩ Tryz.underlying134 hi_) rfl fun ac hS=>?_;refine zlq ?_;refine hS.condF ?_;refine wp_skip ?_;refine St.fallC 0 hS (.tuple #[]) [] tv fun hw=>?_;refine⟨retd rfl,(hw.get 0 b (.cells [pt b 0,v] 136)),hw.fr0⟩
theorem bd_check (b:Nat)(p:Value)(v:Value)(w:World)(hm:HE.holds w b (.cells [p,v] 136))(hp:p=pnil∨p=pt b 0):
    Calls Tryz.prog 128 #[pt b 0] w fun e w'=>e=.returned (.tuple #[])∧HE.holds w' b (.cells [pt b 0,v] 136)∧Fr w w' (K.one b) no:=by
 rcases hp with rfl|rfl
 · exact bd_fresh b v w hm
 · exact bd_used b v w hm
theorem bd_Write (b:Nat)(F:Nat→Prop)(s:ByteArray)(q:Nat)(o:Nat)(k:Nat)(cp:Nat)(n:Nat)(f:Nat→UInt8)(w:World)(hr:(bdR 136 5 b F s).R w)(hh0:HE.holds w q (.fn 0 (0+n) (bytes f 0)))(hf0:¬F q)(hk:0<k)(hb:o+k≤n)(hn:s.size+k≤4294967296):
    Calls Tryz.prog 97 #[pt b 0,sc q o k cp] w fun e w'=>∃(F':Nat→Prop),e=.returned (.tuple #[vi (k:Int),.nilIface])∧(bdR 136 5 b F' (s++bs (fun j=>f (o+j)) k)).R w'∧Fr w w' F F':=by
 have hn2:(2:Nat)^32=4294967296:=rfl;refine enter (args:=[pt b 0,sc q o k cp]) (D:=F) (A:=[bdR 136 5 b F s]) Tryz.func97 rfl 19 rfl [(q,.fn 0 (0+n) (bytes f 0))] (WS.startA (r:=bdR 136 5 b F s) hr ⟨⟨rfl,hh0⟩,trivial⟩ ⟨hf0,trivial⟩) fun ac hS=>?_;refine hS.regS [0,0] [0,1] (sg [] [(0,none)] fun ac wd hS=>?_);obtain⟨p,v_,Fv,hp,hv,hO⟩:=hS.mem.bdOpen;obtain⟨x,cx,rfl⟩:=hv.slice;replace hS:=hS.to hO;clear hO;refine zwq ?_;refine hS.opsC 1 [0] [0,1] (sg [(6,pt b 0)] zn2 fun ac wd hS=>?_);refine hS.callC 128 #[pt b 0] (bd_check b p (.slice x (ByteArray.size s) cx) _ (hS.mem.get 1 b (.cells [p,.slice x (ByteArray.size s) cx] 136)) (by assumption)) ?_;rintro _ wd ⟨rfl,hM,hF⟩;refine⟨.tuple #[],rfl,?_⟩;replace hS:=(hS.to (hS.mem.stepM 1 (show _=some (b,.cells [p,.slice x (ByteArray.size s) cx] 136) by as_aux_lemma=>kernel_rfl) rfl rfl hM hF)).put (d:=7) (v:=.tuple #[]) (by decide);clear hF;refine zlq ?_;refine zwq ?_;refine hS.opsC 6 [0,0,0,0,100,0] [1] fun _=>seg [(8,pt b 0),(12,.slice x (ByteArray.size s) cx),(13,sc q o k cp)] zn2 [.e b] tv fun ac wd hS=>?_;obtain⟨i_,hi_,hz_,hs_,hb_⟩:=info_get (P:=Tryz.prog) (e:=5) (z:=v8 0) (s:=1) (b:=1) (by kernel_rfl);refine Runs1.list ?_;refine St.appB hS (.tmp 12) (.tmp 13) 75 rfl rfl (by decide) Tryz.underlying75 hi_ hz_ hs_ (by omega) rfl (b:=q) (off:=o) (k:=k) (cp:=cp) (fun j=>f (o+j-0)) (Cells8.fn (hS.mem.get 0 q (.fn 0 (0+n) (bytes f 0))) (by omega) (by omega)) (by omega) (by omega) fun ac wd v2_ F3 hB4 _ hS=>?_;obtain⟨xo1,xc2,rfl⟩:=hB4.slice;refine hS.opsC 3 [0,0,100] [1] fun _=>seg [] [(0,none),(1,some (b,.cells [pt b 0,.slice xo1 (ByteArray.size (s++bs (fun j=>f (o+j-0)) k)) xc2] 136))] [.e b] tv fun ac wd hS=>?_;refine zlq ?_;refine hS.regS [0,0,0,0] [] (sg [(4,vi (k:Int)),(5,.nilIface)] [(1,none)] fun ac wd hS=>?_);refine wp_ret ?_;replace hS:=hS.to (WS.bdShut (T:=136) (v:=.slice xo1 (ByteArray.size (s++bs (fun j=>f (o+j-0)) k)) xc2) (s:=(s++bs (fun j=>f (o+j-0)) k)) (Fv:=F3) (H':=[]) hS.mem 0 b (pt b 0) [] (.inr rfl));refine St.retC 0 hS (.tuple #[vi (k:Int),.nilIface]) [] tv fun hw=>?_;refine⟨(fun k=>k=b∨F3 k),retd rfl,(res_eq (r:=bdR 136 5 b (fun k=>k=b∨F3 k) (s++bs (fun j=>f (o+j-0)) k)) (by rfl) (hw.res 0)),hw.frA⟩
theorem bytes1 (b:Nat)(F:Nat→Prop)(s:ByteArray)(q:Nat)(o:Nat)(k:Nat)(cp:Nat)(n:Nat)(f:Nat→UInt8)(w:World)(hr:(bdR 136 5 b F s).R w)(hh0:HE.holds w q (.fn 0 (0+n) (bytes f 0)))(hf0:¬F q)(hk:0<k)(hb:o+k≤n)(hn:s.size+k≤4294967296):
    Calls Tryz.prog 96 #[sc q o k cp,pt b 0] w fun e w'=>∃(F':Nat→Prop),e=.returned (.tuple #[])∧(bdR 136 5 b F' (s++bs (fun j=>f (o+j)) k)).R w'∧Fr w w' F F':=by
 refine enter (args:=[sc q o k cp,pt b 0]) (D:=F) (A:=[bdR 136 5 b F s]) Tryz.func96 rfl 5 rfl [(q,.fn 0 (0+n) (bytes f 0))] (WS.startA (r:=bdR 136 5 b F s) hr ⟨⟨rfl,hh0⟩,trivial⟩ ⟨hf0,trivial⟩) fun ac hS=>?_;refine wp_region_lit ?_;refine hS.opsC 1 [0] [1] (sg [(3,sc q o k cp)] [(0,none)] fun ac wd hS=>?_);refine hS.callC 97 #[pt b 0,sc q o k cp] (bd_Write b F s q o k cp n f _ (hS.mem.res 0) (hS.mem.get 0 q (.fn 0 (0+n) (bytes f 0))) (hS.mem.nF (g:=q) (r:=bdR 136 5 b F s) 0 0) (by first|assumption|omega|(simp_all;done)|(simp_all;omega)) (by first|assumption|omega|(simp_all;done)|(simp_all;omega)) (by first|assumption|omega|(simp_all;done)|(simp_all;omega))) ?_;rintro _ wd ⟨F1,rfl,hA,hF⟩;refine⟨.tuple #[vi (k:Int),.nilIface],rfl,?_⟩;replace hS:=hS.sA 0 rfl hA hF 4 (.tuple #[vi (k:Int),.nilIface]);clear hF;refine zln ?_;refine St.fallC 0 hS (.tuple #[]) [] tv fun hw=>?_;refine⟨F1,retd rfl,(hw.res 0),hw.frA⟩
theorem each_Bytes (b:Nat)(F:Nat→Prop)(m:AM)(bb:Nat)(Fb:Nat→Prop)(s:ByteArray)(a:Int)(n:Int)(w:World)(hr:(arR b F m).R w)(hr1:(bdR 136 5 bb Fb s).R w)(hap:∀k,F k→¬Fb k)(hthr:thr m a n=true)(hn:s.size+Int.toNat n≤4294967296):
    Calls Tryz.prog 81 #[pt b 0,vi a,vi n,.func (.func 96) #[] #[pt bb 0]] w fun e w'=>∃(Fb':Nat→Prop),e=.returned (.tuple #[])∧(bdR 136 5 bb Fb' (s++bs (fun j=>m.mem (Int.toNat a+j)) n.toNat)).R w'∧Fr w w' Fb Fb':=by
 obtain⟨d,hd⟩:=hr;have hW:Words d.ws d.nw m.cap m.com:=hd.set;have hcl:m.cap≤1048576:=hd.capLe;have hFb:F b:=(hd.foot _).2 (.inl rfl);have hFp:F d.bp:=(hd.foot _).2 (.inr (.inl rfl));obtain⟨hI1,hI2,hI3,hI4⟩:=inB_facts (thr_in hthr);refine enter (args:=[pt b 0,vi a,vi n,.func (.func 96) #[] #[pt bb 0]]) (D:=Fb) (A:=[bdR 136 5 bb Fb s]) Tryz.func81 rfl 38 rfl [(b,.fn 0 6 (roF [sc d.bp 0 m.cap m.cap,vi (m.cap:Int),sc d.bw d.ow d.nw d.cw,vi ((countTo m.com m.cap:Nat):Int),vb m.armed,vi (m.refuse:Int)])),(d.bp,.fn 0 (0+m.cap) (pagesV m.com d.pb 0))] (WS.startA (r:=bdR 136 5 bb Fb s) hr1 ⟨⟨rfl,hd.ro⟩,⟨rfl,hd.po⟩,trivial⟩ ⟨hap _ hFb,hap _ hFp,trivial⟩) fun ac hS=>?_;refine wp_block ?_;refine St.loopC (σ:=Int×Int×(Nat→Prop)×ByteArray) (fun(x:Int×Int×(Nat→Prop)×ByteArray)=>match x with|(x1,x2,Fx,mx)=>⟨[(0,[],pt b 0),(1,[],vi x1),(2,[],vi x2),(3,[],.func (.func 96) #[] #[pt bb 0])],[(b,.fn 0 6 (roF [sc d.bp 0 m.cap m.cap,vi (m.cap:Int),sc d.bw d.ow d.nw d.cw,vi ((countTo m.com m.cap:Nat):Int),vb m.armed,vi (m.refuse:Int)])),(d.bp,.fn 0 (0+m.cap) (pagesV m.com d.pb 0))],[bdR 136 5 bb Fx mx],(0≤x2∧a≤x1∧x1+x2=a+n)∧(mx=s++bs (fun j=>m.mem (Int.toNat a+j)) (Int.toNat (x1-a)))∧True,Int.toNat x2⟩) (a,n,Fb,s) ⟨(by first|omega|(rw [show Int.toNat (a-a)=0 by omega,bs_zero,ByteArray.append_empty])),(by first|omega|(rw [show Int.toNat (a-a)=0 by omega,bs_zero,ByteArray.append_empty])),trivial⟩ hS ?_;clear hS;rintro⟨x1,x2,Fx,mx⟩ ⟨i0,i1,-⟩ ac wd hS;replace i0:0≤x2∧a≤x1∧x1+x2=a+n:=i0;replace i1:mx=s++bs (fun j=>m.mem (Int.toNat a+j)) (Int.toNat (x1-a)):=i1;have hsz:mx.size=s.size+Int.toNat (x1-a):=by rw [i1,bs_append]
 have him:0<x2→1≤imin x2 (4096-(x1%4096))∧imin x2 (4096-(x1%4096))≤x2∧imin x2 (4096-(x1%4096))≤4096-(x1%4096):=fun h=>by unfold imin;split<;>omega
 refine wp_seq ?_;refine hS.regS [0,0] [0,1,2,3] (sg [(10,vb (decide ((0:Int)<x2)))] zn2 fun ac wd hS=>?_);refine hS.condC (decide ((0:Int)<x2)) (fun hb1o hb1=>?_) (fun hb1o hb1=>?_)
 ·
  refine wp_skip ?_;refine zpt ?_;refine wp_block ?_;refine hS.regS [0,0,20,20,0,0] [0,1,2,3] fun _=>seg [(8,vi (imin x2 (4096-(x1%4096))))] zn2 [.p (fit .i64 (4096-(x1%4096))),.p ((4096:Int)≠0∧Int.tmod x1 4096=x1%4096)] ⟨zf6 (by omega),rem2 (by omega) (by omega),tv⟩ fun ac wd hS=>?_;obtain⟨hpi,hpc⟩:=thr_page hthr (x:=x1) (by omega) (by omega);replace hS:=hS.to (hS.mem.acq (g:=d.pb (Int.toNat (x1/4096))) (hd.po1 hpi hpc) (hap _ ((hd.foot _).2 (.inr (.inr (.inr ⟨_,hpi,hpc,rfl⟩))))));refine zwq ?_;refine hS.opsC 12 [0,0,0,0,0,0,20,10,fx 100 (pt (d.pb (Int.toNat (x1/4096))) 0),0,0,20] [0,1,2,3,8] fun _=>seg [(16,.func (.func 96) #[] #[pt bb 0]),(25,pt (d.pb (Int.toNat (x1/4096))) 0),(27,vi (x1%4096))] zn3 [.p ((4096:Int)≠0∧Int.tmod x1 4096=x1%4096),.p ((((pagesV m.com d.pb 0) (Int.toNat (x1/4096))):Value)=pt (d.pb (Int.toNat (x1/4096))) 0),.e d.bp,.p (0≤Int.toNat (x1/4096)∧Int.toNat (x1/4096)<(0+m.cap)),.p ((0:Int)≤(x1/4096)∧((x1/4096):Int)<(m.cap:Int)),.p ((4096:Int)≠0∧IntKind.i64.wrap (Int.tdiv x1 4096)=x1/4096),.e b,.p (0≤0∧0<6)] ⟨rem2 (by omega) (by omega),((pagesV_abs m.com d.pb (Int.toNat (x1/4096))).trans (pt_if hpc)),(by first|omega|(have:=him (by omega);omega)),(by first|omega|(have:=him (by omega);omega)),quo2 (by omega) (by omega) (by omega),(by decide),tv⟩ fun ac wd hS=>?_;refine Runs1.list ?_;obtain⟨i_,hi_,hz_,hs_,hb_⟩:=info_get (P:=Tryz.prog) (e:=5) (z:=v8 0) (s:=1) (b:=1) (by kernel_rfl);refine St.slcP hS 126 (.tmp 25) (some (.tmp 27)) none rfl rfl (by decide) Tryz.underlying126 hi_ hs_ (b:=(d.pb (Int.toNat (x1/4096)))) (q:=(Int.toNat (x1%4096))) (k:=(4096-(Int.toNat (x1%4096)))) (x1%4096) 4096 (by first|omega|(have:=him (by omega);omega)) (by first|omega|(have:=him (by omega);omega)) (by first|omega|(have:=him (by omega);omega)) fun ac hS=>?_;refine hS.opsC 2 [0,fx 20 (sc (d.pb (Int.toNat (x1/4096))) (Int.toNat (x1%4096)) (Int.toNat (imin x2 (4096-(x1%4096)))) (4096-(Int.toNat (x1%4096))))] [0,1,2,3,8,16] fun _=>seg [(30,sc (d.pb (Int.toNat (x1/4096))) (Int.toNat (x1%4096)) (Int.toNat (imin x2 (4096-(x1%4096)))) (4096-(Int.toNat (x1%4096))))] zn3 [.p ((sc (d.pb (Int.toNat (x1/4096))) (Int.toNat (x1%4096)) (Int.toNat ((imin x2 (4096-(x1%4096))):Int)) (4096-(Int.toNat (x1%4096))):Value)=sc (d.pb (Int.toNat (x1/4096))) (Int.toNat (x1%4096)) (Int.toNat (imin x2 (4096-(x1%4096)))) (4096-(Int.toNat (x1%4096)))),.p (0≤((imin x2 (4096-(x1%4096))):Int)∧((imin x2 (4096-(x1%4096))):Int)≤(((4096-(Int.toNat (x1%4096))):Nat):Int)∧(4096-(Int.toNat (x1%4096)))≤(4096-(Int.toNat (x1%4096)))∧(0:Int)=0)] ⟨(rfl),(by first|omega|(have:=him (by omega);omega)),tv⟩ fun ac wd hS=>?_;refine hS.callC 96 #[sc (d.pb (Int.toNat (x1/4096))) (Int.toNat (x1%4096)) (Int.toNat (imin x2 (4096-(x1%4096)))) (4096-(Int.toNat (x1%4096))),pt bb 0] (bytes1 bb Fx mx (d.pb (Int.toNat (x1/4096))) (Int.toNat (x1%4096)) (Int.toNat (imin x2 (4096-(x1%4096)))) (4096-(Int.toNat (x1%4096))) 4096 (fun o=>m.mem (4096*(Int.toNat (x1/4096))+o)) _ (hS.mem.res 0) (hS.mem.get 2 (d.pb (Int.toNat (x1/4096))) (.fn 0 4096 (bytes (fun o=>m.mem (4096*(Int.toNat (x1/4096))+o)) 0))) (hS.mem.nF (g:=(d.pb (Int.toNat (x1/4096)))) (r:=bdR 136 5 bb Fx mx) 2 0) (by first|assumption|omega|(simp_all;done)|(simp_all;omega)) (by first|assumption|omega|(simp_all;done)|(simp_all;omega)) (by first|assumption|omega|(simp_all;done)|(simp_all;omega))) ?_;rintro _ wd ⟨F2,rfl,hA,hF⟩;refine⟨.tuple #[],rfl,?_⟩;replace hS:=hS.sA 0 rfl hA hF 31 (.tuple #[]);clear hF;refine zlq ?_;refine hS.regC [0,0,20,0,0,20,0,0] [0,3] fun _=>seg [(1,vi (x1+(imin x2 (4096-(x1%4096))))),(2,vi (x2-(imin x2 (4096-(x1%4096)))))] zn2 [.p (fit .i64 (x2-(imin x2 (4096-(x1%4096))))),.p (fit .i64 (x1+(imin x2 (4096-(x1%4096)))))] ⟨zf6 (by omega),zf6 (by omega),tv⟩ fun ac wd hS=>?_;refine zpb ?_;exact zpt (hS.next ((x1+(imin x2 (4096-(x1%4096)))),(x2-(imin x2 (4096-(x1%4096)))),F2,(mx++bs (fun j=>(fun o=>m.mem (4096*(Int.toNat (x1/4096))+o)) ((Int.toNat (x1%4096))+j)) (Int.toNat (imin x2 (4096-(x1%4096)))))) ⟨(by first|omega|assumption|(simp;done)|(simp;omega)),(by exact bs_step i1 (fun j hj=>congrArg m.mem (by have:=him (by omega);omega)) (by have:=him (by omega);omega)),tv⟩ (by dsimp only;omega))
 ·
  refine wp_exit ?_;refine zpe ?_;refine zpe ?_;refine zph ?_;refine St.fallC 0 hS (.tuple #[]) [] tv fun hw=>?_;refine⟨Fx,retd rfl,(res_eq (r:=bdR 136 5 bb Fx mx) (by rw [i1,show Int.toNat (x1-a)=Int.toNat n by omega]) (hw.res 0)),hw.frA⟩
theorem bd_String0 (b:Nat)(p:Value)(w:World)(hh0:HE.holds w b (.fn 0 2 (roF [p,vnil]))):
    Calls Tryz.prog 98 #[pt b 0] w fun e w'=>e=.returned (.string ByteArray.empty)∧Fr w w' no no:=by
 refine enter (args:=[pt b 0]) (D:=no) (A:=[]) Tryz.func98 rfl 14 rfl [(b,.fn 0 2 (roF [p,vnil]))] (WS.startL ⟨⟨rfl,hh0⟩,trivial⟩) fun ac hS=>?_;refine hS.regS [0] [0] (sg [] [(0,none)] fun ac wd hS=>?_);refine St.ordBeginS [(0,1),(1,1),(2,1),(3,1),(5,1),(6,1),(7,1),(8,1),(9,1),(4,0),(10,0),(11,1)] [(b,.fn 0 2 (roF [p,vnil]))] [0] hS fun wd hS=>?_;have hap:=hS.mem.pairs (Hf:=[(b,.fn 0 2 (roF [p,vnil]))]) (l:=[0]);refine St.ordF [0,0,0,0,0,0,0,0,0] [0,1,2,3,5,6,7,8,9] [] (rest:=[(4,0),(10,0),(11,1)]) hS hap<|segF [(6,vnil),(12,vi 0)] [.e b,.p (0≤1∧1<2),.e b,.p (0≤1∧1<2)] ⟨(by decide),(by decide),tv⟩ fun ac hS=>?_;refine Runs1.ord (i:=4) ?_;refine St.uSD hS (.tmp 6) #[75] rfl rfl (by decide) (p:=none) (k:=0) (cp:=0) (.inl rfl) fun ac hS=>?_;refine hS.ordV (l:=[0]) ?_;refine Runs1.ord (i:=10) ?_;refine St.uS0 hS (.tmp 7) (.tmp 12) 161 3 rfl rfl (by decide) (p:=none) fun ac hS=>?_;refine hS.ordV (l:=[0]) ?_;refine St.ordF [0] [11] [] (rest:=[]) hS hap<|segF [(2,.string ByteArray.empty)] [] tv fun ac hS=>?_;refine zon ?_;refine wp_ret ?_;refine St.retC 0 hS (.string ByteArray.empty) [] tv fun hw=>?_;refine⟨retd rfl,hw.fr0⟩
theorem bd_String1 (b:Nat)(p:Value)(g:Nat)(s:ByteArray)(tot:Nat)(w:World)(hh0:HE.holds w b (.fn 0 2 (roF [p,sc g 0 (ByteArray.size s) tot])))(hrow:HE.holds w g (.row 5 (ByteArray.size s) tot (bytes (sb s) 0)))(hne:¬K.one g b)(h0:0<ByteArray.size s)(h9:ByteArray.size s≤tot)(hn:ByteArray.size s≤4294967296):
    Calls Tryz.prog 98 #[pt b 0] w fun e w'=>e=.returned (.string s)∧Fr w w' (K.one g) no:=by
 refine enter (args:=[pt b 0]) (D:=K.one g) (A:=[]) Tryz.func98 rfl 14 rfl [(b,.fn 0 2 (roF [p,sc g 0 (ByteArray.size s) tot])),(g,.row 5 (ByteArray.size s) tot (bytes (sb s) 0))] (WS.startM (H:=[(b,.fn 0 2 (roF [p,sc g 0 (ByteArray.size s) tot]))]) hrow ⟨⟨rfl,hh0⟩,trivial⟩ ⟨hne,trivial⟩) fun ac hS=>?_;refine hS.regS [0] [0] (sg [] zn2 fun ac wd hS=>?_);refine St.ordBeginS [(0,1),(1,1),(2,1),(3,1),(5,1),(6,1),(7,1),(8,1),(9,1),(4,0),(10,0),(11,1)] [(b,.fn 0 2 (roF [p,sc g 0 (ByteArray.size s) tot]))] [0] hS fun wd hS=>?_;have hap:=hS.mem.pairs (Hf:=[(b,.fn 0 2 (roF [p,sc g 0 (ByteArray.size s) tot]))]) (l:=[0]);refine St.ordF [0,0,0,0,0,0,0,0,0] [0,1,2,3,5,6,7,8,9] [] (rest:=[(4,0),(10,0),(11,1)]) hS hap<|segF [(6,sc g 0 (ByteArray.size s) tot),(12,vi (((ByteArray.size s):Nat):Int))] [.e b,.p (0≤1∧1<2),.e b,.p (0≤1∧1<2)] ⟨(by decide),(by decide),tv⟩ fun ac hS=>?_;refine Runs1.ord (i:=4) ?_;refine St.uSD hS (.tmp 6) #[75] rfl rfl (by decide) (p:=(some ⟨g,0,none⟩)) (k:=(ByteArray.size s)) (cp:=tot) (.inr (by omega)) fun ac hS=>?_;refine hS.ordV (l:=[0]) ?_;refine Runs1.ord (i:=10) ?_;refine St.uS hS (.tmp 7) (.tmp 12) 161 3 rfl rfl (by decide) Tryz.underlying161 (by as_aux_lemma=>kernel_rfl) (g:=g) (tot:=tot) (s:=s) (by omega) (by omega) 1 [0] (H':=[(b,.fn 0 2 (roF [p,sc g 0 (ByteArray.size s) tot]))]) (by as_aux_lemma=>kernel_rfl) (by as_aux_lemma=>kernel_rfl) (by decide) (by decide) fun ac wd hS=>?_;refine hS.ordV (l:=[0]) ?_;refine St.ordF [0] [11] [] (rest:=[]) hS hap<|segF [(2,.string s)] [] tv fun ac hS=>?_;refine zon ?_;refine wp_ret ?_;refine St.retC 0 hS (.string s) [] tv fun hw=>?_;refine⟨retd rfl,hw.fr0⟩
theorem bd_String (b:Nat)(F:Nat→Prop)(s:ByteArray)(w:World)(hr:(bdR 136 5 b F s).R w)(hn:s.size≤4294967296):
    Calls Tryz.prog 98 #[pt b 0] w fun e w'=>e=.returned (.string s)∧Fr w w' F no:=by
 obtain⟨p,v,F',h1,h2,h3,h4,hF⟩:=hr
 rcases h3 with⟨rfl,rfl,h5⟩|⟨g,tot,rfl,h5,h6,h7⟩
 · refine(bd_String0 b p w (HE.ro h1)).mono ?_
   rintro e w' ⟨rfl,hf⟩;exact⟨rfl,hf.to (fun k hk=>hk.elim) (fun k hk=>hk.elim)⟩
 · obtain⟨cc,c1,c2,c3,c4⟩:=id h6
   refine(bd_String1 b p g s tot w (HE.ro h1) h6 (fun h=>h4 ((h7 b).2 h)) h5 c3 hn).mono ?_;rintro e w' ⟨rfl,hf⟩;exact⟨rfl,hf.to (fun k hk=>.inl ((hF k).2 (.inr ((h7 k).2 hk)))) (fun k hk=>hk.elim)⟩
theorem ar_Bytes (b:Nat)(F:Nat→Prop)(m:AM)(a:Int)(n:Int)(w:World)(hr:(arR b F m).R w):
    Calls Tryz.prog 52 #[pt b 0,vi a,vi n] w fun e w'=>e=.returned (.tuple #[.string (bytS m a n),vi (chkE m a n)])∧Fr w w' no no:=by
 obtain⟨d,hd⟩:=id hr;have hW:Words d.ws d.nw m.cap m.com:=hd.set;have hcl:m.cap≤1048576:=hd.capLe;refine enter (args:=[pt b 0,vi a,vi n]) (D:=no) (A:=[]) Tryz.func52 rfl 23 rfl [] (WS.startL trivial) fun ac hS=>?_;refine hS.regS [0,0] [0,1,2] (sg [] [] fun ac wd hS=>?_);refine wp_seq ?_;refine zwq ?_;refine hS.opsC 3 [0,0,0] [0,1,2] (sg [(10,pt b 0),(11,vi a),(12,vi n)] [] fun ac wd hS=>?_);refine hS.call0 80 #[pt b 0,vi a,vi n] 13 (ar_check b F m a n _ (Res.keep hr hS.mem.fr)) fun ac wd hS=>?_;refine hS.opsC 1 [0] [0,1,2] (sg [(8,vi (chkE m a n))] [] fun ac wd hS=>?_);refine zlq ?_;refine hS.regS [0,0] [0,1,2,8] (sg [(15,vb (((chkE m a n):Int)!=0))] [] fun ac wd hS=>?_);refine hS.condC (((chkE m a n):Int)!=0) (fun hb1o hb1=>?_) (fun hb1o hb1=>?_)
 ·
  have hno:=hb1;refine hS.regS [0,0,0] [] (sg [(6,.string (⟨#[]⟩:ByteArray)),(7,vi (chkE m a n))] [] fun ac wd hS=>?_);refine wp_ret ?_;refine zpr ?_;refine St.retC 0 hS (.tuple #[.string (⟨#[]⟩:ByteArray),vi (chkE m a n)]) [] tv fun hw=>?_;refine⟨retd (tuple2 (vstr ?_) rfl),hw.fr0⟩
  all_goals (first|exact bytS_no (by omega)|exact bytS_yes hthr|omega|rfl)
 ·
  have hthr:=thr_of hb1;obtain⟨hI1,hI2,hI3,hI4⟩:=inB_facts (thr_in hthr);refine wp_skip ?_;refine zpt ?_;refine hS.regS [0] [0,1,2] fun ν6=>seg [(9,pt (ν6 0) 0)] [(0,some ((ν6 0),.cells [pnil,vnil] 136))] [] tv fun ac wd hS=>?_;have hnew:w.heap.size≤(ν6 0):=(hS.mem.getm 0 (ν6 0) (.cells [pnil,vnil] 136)).resolve_right (fun h=>h);replace hS:=hS.to (WS.bdNew (H':=[]) hS.mem 0 (ν6 0) 136 5 []);refine zwq ?_;refine hS.opsC 4 [0,0,0,0] [9] (sg [(17,pt b 0),(18,vi a),(19,vi n),(20,.func (.func 96) #[] #[pt (ν6 0) 0])] [] fun ac wd hS=>?_);refine hS.callC 81 #[pt b 0,vi a,vi n,.func (.func 96) #[] #[pt (ν6 0) 0]] (each_Bytes b F m (ν6 0) (K.one (ν6 0)) ByteArray.empty a n _ (Res.keep hr hS.mem.fr) (hS.mem.res 0) (by exact new_apart hr hnew) (by first|assumption|omega|(simp_all;done)|(simp_all;omega)) (by rw [ByteArray.size_empty];omega)) ?_;rintro _ wd ⟨F2,rfl,hA,hF⟩;refine⟨.tuple #[],rfl,?_⟩;replace hS:=hS.sA 0 rfl hA hF 21 (.tuple #[]);clear hF;refine zlq ?_;refine zwq ?_;refine hS.callC 98 #[pt (ν6 0) 0] (bd_String (ν6 0) F2 (ByteArray.empty++bs (fun j=>m.mem (Int.toNat a+j)) n.toNat) _ (hS.mem.res 0) (by rw [ByteArray.empty_append,bs_size];omega)) ?_;rintro _ wd ⟨rfl,hF⟩;refine⟨.string (ByteArray.empty++bs (fun j=>m.mem (Int.toNat a+j)) n.toNat),rfl,?_⟩;replace hS:=(hS.to (hS.mem.consA 0 rfl hF)).put (d:=22) (v:=.string (ByteArray.empty++bs (fun j=>m.mem (Int.toNat a+j)) n.toNat)) (by decide);clear hF;refine hS.opsC 2 [0,0] [] (sg [(6,.string (ByteArray.empty++bs (fun j=>m.mem (Int.toNat a+j)) n.toNat)),(7,vi 0)] [] fun ac wd hS=>?_);refine zlq ?_;refine wp_ret ?_;refine St.retC 0 hS (.tuple #[.string (ByteArray.empty++bs (fun j=>m.mem (Int.toNat a+j)) n.toNat),vi 0]) [] tv fun hw=>?_;refine⟨retd (tuple2 (vstr ?_) (vint ?_)),hw.fr0⟩
  all_goals (first|exact bytS_no (by omega)|exact bytS_yes hthr|omega|rfl)
theorem put1 (q:Nat)(o:Nat)(k:Nat)(cp:Nat)(sb_:Nat)(n:Nat)(f:Nat→UInt8)(T:TypeId)(s:ByteArray)(w:World)(hm:HE.holds w q (.row T n n (bytes f 0)))(hm2:HE.holds w sb_ (.cells [.string s] 9))(huv:¬K.one sb_ q)(hb:o+k≤n):
    Calls Tryz.prog 124 #[sc q o k cp,pt sb_ 0] w fun e w'=>e=.returned (.tuple #[])∧HE.holds w' q (.row T n n (bytes (laidF f o (min (ByteArray.size s) k) s) 0))∧HE.holds w' sb_ (.cells [.string (ByteArray.extract s (min (ByteArray.size s) k) (ByteArray.size s))] 9)∧Fr w w' (orF (K.one q) (K.one sb_)) no:=by
 refine enter (args:=[sc q o k cp,pt sb_ 0]) (D:=(orF (K.one q) (K.one sb_))) (A:=[]) Tryz.func124 rfl 8 rfl [(q,.row T n n (bytes f 0)),(sb_,.cells [.string s] 9)] (WS.startMM (H:=[]) hm hm2 trivial trivial trivial huv) fun ac hS=>?_;refine St.ordBegin [(0,1),(1,1),(2,1),(3,0),(4,1),(5,2)] [(sb_,.cells [.string s] 9)] [1] hS fun wd hS=>?_;have hap:=hS.mem.pairs (Hf:=[(sb_,.cells [.string s] 9)]) (l:=[1]);refine St.ordF [0,0,0] [0,1,2] [1] (rest:=[(3,0),(4,1),(5,2)]) hS hap<|segF [(3,.string s),(4,sc q o k cp),(5,.string s)] [.e sb_,.e sb_] tv fun ac hS=>?_;refine Runs1.ord (i:=3) ?_;obtain⟨i_,hi_,hz_,hs_,hb_⟩:=info_get (P:=Tryz.prog) (e:=5) (z:=v8 0) (s:=1) (b:=1) (by kernel_rfl);refine St.copyS hS (.tmp 4) (.tmp 5) 75 9 rfl rfl (by decide) Tryz.underlying75 hi_ hz_ hs_ (b:=q) (off:=o) (k:=k) (cp:=cp) (m:=n) (tot:=n) (e2:=T) (f:=f) (s:=s) 0 (by omega) fun ac wd hS=>?_;refine hS.ordV (l:=[1]) ?_;refine St.ordF [10] [4] [1] (rest:=[(5,2)]) hS hap<|segF [(7,.string (ByteArray.extract s (Int.toNat ((min (ByteArray.size s) k:Nat):Int)) (Int.toNat ((ByteArray.size s:Nat):Int))))] [.p (0≤((min (ByteArray.size s) k:Nat):Int)∧((min (ByteArray.size s) k:Nat):Int)≤((ByteArray.size s:Nat):Int)∧((ByteArray.size s:Nat):Int)≤(ByteArray.size s:Int))] ⟨(by omega),tv⟩ fun ac hS=>?_;refine St.ord2 5 [100] [] hS rfl fun _=>seg [] [(0,none),(1,some (sb_,.cells [.string (ByteArray.extract s (Int.toNat ((min (ByteArray.size s) k:Nat):Int)) (Int.toNat ((ByteArray.size s:Nat):Int)))] 9))] [.e sb_] tv fun ac wd hS=>?_;refine zon ?_;refine St.fallC 0 hS (.tuple #[]) [] tv fun hw=>?_;refine⟨retd rfl,(HE.row_eq (hw.get 0 q (.row T n n (bytes (fun x=>if o≤x∧x<o+(min (ByteArray.size s) k)then sb s (x-o)else f x) 0))) ?_),(HE.cells_eq (hw.get 1 sb_ (.cells [.string (ByteArray.extract s (Int.toNat ((min (ByteArray.size s) k:Nat):Int)) (Int.toNat ((ByteArray.size s:Nat):Int)))] 9)) ?_),hw.fr0⟩
 all_goals (first|rfl|(intro o_ _;rfl)|(simp [laidF];done))
theorem each_Put (b:Nat)(F:Nat→Prop)(m:AM)(a:Int)(sb_:Nat)(s:ByteArray)(w:World)(hr:(arR b F m).R w)(hm:HE.holds w sb_ (.cells [.string s] 9))(hfs:¬F sb_)(hthr:thr m a (((ByteArray.size s):Nat):Int)=true):
    Calls Tryz.prog 81 #[pt b 0,vi a,vi (((ByteArray.size s):Nat):Int),.func (.func 124) #[] #[pt sb_ 0]] w fun e w'=>∃(F':Nat→Prop),e=.returned (.tuple #[])∧(arR b F' (laidM m a.toNat s)).R w'∧Wins w F F'∧HE.holds w' sb_ (.cells [.string (ByteArray.extract s (ByteArray.size s) (ByteArray.size s))] 9)∧Fr w w' (orF F (K.one sb_)) no:=by
 have hst:=WS.startAM (H:=[]) (r:=arR b F m) hr hm trivial trivial trivial hfs;obtain⟨d,hd,hO,hbw⟩:=hst.openA;have hcnt:=countTo_le m.com m.cap;have hW:Words d.ws d.nw m.cap m.com:=hd.set;have hcl:m.cap≤1048576:=hd.capLe;have hrl:m.refuse<2^63:=hd.refuseLe;obtain⟨hI1,hI2,hI3,hI4⟩:=inB_facts (thr_in hthr);refine enter (args:=[pt b 0,vi a,vi (((ByteArray.size s):Nat):Int),.func (.func 124) #[] #[pt sb_ 0]]) (D:=(orF F (K.one sb_))) (A:=[pgR 0 (Fp m.cap m.com d.pb) ⟨m.cap,m.com,m.mem,d.pb⟩]) Tryz.func81 rfl 38 rfl [(sb_,.cells [.string s] 9),(b,.cells [sc d.bp 0 m.cap m.cap,vi (m.cap:Int),sc d.bw d.ow d.nw d.cw,vi ((countTo m.com m.cap:Nat):Int),vb m.armed,vi (m.refuse:Int)] d.TA),(d.bp,.row d.TP m.cap m.cap (pagesV m.com d.pb 0)),(d.bw,.fn d.ow (d.ow+d.nw) (u64s d.ws d.ow))] hO fun ac hS=>?_;refine wp_block ?_;refine St.loopC (σ:=Int×Int×(Nat→Prop)×(Nat→UInt8)×ByteArray) (fun(x:Int×Int×(Nat→Prop)×(Nat→UInt8)×ByteArray)=>match x with|(x1,x2,Fx,memx,sx)=>⟨[(0,[],pt b 0),(1,[],vi x1),(2,[],vi x2),(3,[],.func (.func 124) #[] #[pt sb_ 0])],[(sb_,.cells [.string sx] 9),(b,.cells [sc d.bp 0 m.cap m.cap,vi (m.cap:Int),sc d.bw d.ow d.nw d.cw,vi ((countTo m.com m.cap:Nat):Int),vb m.armed,vi (m.refuse:Int)] d.TA),(d.bp,.row d.TP m.cap m.cap (pagesV m.com d.pb 0)),(d.bw,.fn d.ow (d.ow+d.nw) (u64s d.ws d.ow))],[pgR 0 Fx (⟨m.cap,m.com,memx,d.pb⟩)],(0≤x2∧a≤x1∧x1+x2=a+(((ByteArray.size s):Nat):Int))∧(memx=laidF m.mem a.toNat (Int.toNat (x1-a)) s)∧(sx=ByteArray.extract s (Int.toNat (x1-a)) (ByteArray.size s))∧True,Int.toNat x2⟩) (a,(((ByteArray.size s):Nat):Int),(Fp m.cap m.com d.pb),m.mem,s) ⟨(by first|omega|(rw [show Int.toNat (a-a)=0 by omega];first|exact laidF_zero _ _ _|exact ext_all s)),(by first|omega|(rw [show Int.toNat (a-a)=0 by omega];first|exact laidF_zero _ _ _|exact ext_all s)),(by first|omega|(rw [show Int.toNat (a-a)=0 by omega];first|exact laidF_zero _ _ _|exact ext_all s)),trivial⟩ hS ?_;clear hS;rintro⟨x1,x2,Fx,memx,sx⟩ ⟨i0,i1,i2,-⟩ ac wd hS;replace i0:0≤x2∧a≤x1∧x1+x2=a+(((ByteArray.size s):Nat):Int):=i0;replace i1:memx=laidF m.mem a.toNat (Int.toNat (x1-a)) s:=i1;replace i2:sx=ByteArray.extract s (Int.toNat (x1-a)) (ByteArray.size s):=i2;have him:0<x2→1≤imin x2 (4096-(x1%4096))∧imin x2 (4096-(x1%4096))≤x2∧imin x2 (4096-(x1%4096))≤4096-(x1%4096):=fun h=>by unfold imin;split<;>omega
 refine wp_seq ?_;refine hS.regS [0,0] [0,1,2,3] (sg [(10,vb (decide ((0:Int)<x2)))] zn4 fun ac wd hS=>?_);refine hS.condC (decide ((0:Int)<x2)) (fun hb1o hb1=>?_) (fun hb1o hb1=>?_)
 ·
  refine wp_skip ?_;refine zpt ?_;refine wp_block ?_;refine hS.regS [0,0,20,20,0,0] [0,1,2,3] fun _=>seg [(8,vi (imin x2 (4096-(x1%4096))))] zn4 [.p (fit .i64 (4096-(x1%4096))),.p ((4096:Int)≠0∧Int.tmod x1 4096=x1%4096)] ⟨zf6 (by omega),rem2 (by omega) (by omega),tv⟩ fun ac wd hS=>?_;obtain⟨hpi,hpc⟩:=thr_page hthr (x:=x1) (by omega) (by omega);obtain⟨T2,hO2⟩:=hS.mem.take (Int.toNat (x1/4096)) hpi hpc;replace hS:=hS.to hO2;clear hO2;refine zwq ?_;refine hS.opsC 12 [0,0,0,0,100,0,20,10,fx 200 (pt (d.pb (Int.toNat (x1/4096))) 0),0,0,20] [0,1,2,3,8] fun _=>seg [(16,.func (.func 124) #[] #[pt sb_ 0]),(25,pt (d.pb (Int.toNat (x1/4096))) 0),(27,vi (x1%4096))] zn5 [.p ((4096:Int)≠0∧Int.tmod x1 4096=x1%4096),.p ((((pagesV m.com d.pb 0) (Int.toNat (x1/4096))):Value)=pt (d.pb (Int.toNat (x1/4096))) 0),.e d.bp,.p (Int.toNat (x1/4096)<m.cap),.p ((0:Int)≤(x1/4096)∧((x1/4096):Int)<(m.cap:Int)),.p ((4096:Int)≠0∧IntKind.i64.wrap (Int.tdiv x1 4096)=x1/4096),.e b] ⟨rem2 (by omega) (by omega),((pagesV_abs m.com d.pb (Int.toNat (x1/4096))).trans (pt_if hpc)),(by first|omega|(have:=him (by omega);omega)),(by first|omega|(have:=him (by omega);omega)),quo2 (by omega) (by omega) (by omega),tv⟩ fun ac wd hS=>?_;refine Runs1.list ?_;obtain⟨i_,hi_,hz_,hs_,hb_⟩:=info_get (P:=Tryz.prog) (e:=5) (z:=v8 0) (s:=1) (b:=1) (by kernel_rfl);refine St.slcP hS 126 (.tmp 25) (some (.tmp 27)) none rfl rfl (by decide) Tryz.underlying126 hi_ hs_ (b:=(d.pb (Int.toNat (x1/4096)))) (q:=(Int.toNat (x1%4096))) (k:=(4096-(Int.toNat (x1%4096)))) (x1%4096) 4096 (by first|omega|(have:=him (by omega);omega)) (by first|omega|(have:=him (by omega);omega)) (by first|omega|(have:=him (by omega);omega)) fun ac hS=>?_;refine hS.opsC 2 [0,fx 20 (sc (d.pb (Int.toNat (x1/4096))) (Int.toNat (x1%4096)) (Int.toNat (imin x2 (4096-(x1%4096)))) (4096-(Int.toNat (x1%4096))))] [0,1,2,3,8,16] fun _=>seg [(30,sc (d.pb (Int.toNat (x1/4096))) (Int.toNat (x1%4096)) (Int.toNat (imin x2 (4096-(x1%4096)))) (4096-(Int.toNat (x1%4096))))] zn5 [.p ((sc (d.pb (Int.toNat (x1/4096))) (Int.toNat (x1%4096)) (Int.toNat ((imin x2 (4096-(x1%4096))):Int)) (4096-(Int.toNat (x1%4096))):Value)=sc (d.pb (Int.toNat (x1/4096))) (Int.toNat (x1%4096)) (Int.toNat (imin x2 (4096-(x1%4096)))) (4096-(Int.toNat (x1%4096)))),.p (0≤((imin x2 (4096-(x1%4096))):Int)∧((imin x2 (4096-(x1%4096))):Int)≤(((4096-(Int.toNat (x1%4096))):Nat):Int)∧(4096-(Int.toNat (x1%4096)))≤(4096-(Int.toNat (x1%4096)))∧(0:Int)=0)] ⟨(rfl),(by first|omega|(have:=him (by omega);omega)),tv⟩ fun ac wd hS=>?_;refine hS.callC 124 #[sc (d.pb (Int.toNat (x1/4096))) (Int.toNat (x1%4096)) (Int.toNat (imin x2 (4096-(x1%4096)))) (4096-(Int.toNat (x1%4096))),pt sb_ 0] (put1 (d.pb (Int.toNat (x1/4096))) (Int.toNat (x1%4096)) (Int.toNat (imin x2 (4096-(x1%4096)))) (4096-(Int.toNat (x1%4096))) sb_ 4096 (fun o=>memx (4096*(Int.toNat (x1/4096))+o)) T2 sx _ (hS.mem.get 4 (d.pb (Int.toNat (x1/4096))) (.row T2 4096 4096 (bytes (fun o=>memx (4096*(Int.toNat (x1/4096))+o)) 0))) (hS.mem.get 0 sb_ (.cells [.string sx] 9)) (hS.mem.neq 4 0) (by first|assumption|omega|(simp_all;done)|(simp_all;omega))) ?_;rintro _ wd ⟨rfl,hM,hM2,hF⟩;refine⟨.tuple #[],rfl,?_⟩;replace hS:=(hS.to (hS.mem.stepMM 4 0 (by decide) (show _=some ((d.pb (Int.toNat (x1/4096))),.row T2 4096 4096 (bytes (fun o=>memx (4096*(Int.toNat (x1/4096))+o)) 0)) by as_aux_lemma=>kernel_rfl) (show _=some (sb_,.cells [.string sx] 9) by as_aux_lemma=>kernel_rfl) rfl rfl rfl rfl hM hM2 hF)).put (d:=31) (v:=.tuple #[]) (by decide);clear hF;refine zlq ?_;refine hS.regC [0,0,20,0,0,20,0,0] [0,3] fun _=>seg [(1,vi (x1+(imin x2 (4096-(x1%4096))))),(2,vi (x2-(imin x2 (4096-(x1%4096)))))] zn5 [.p (fit .i64 (x2-(imin x2 (4096-(x1%4096))))),.p (fit .i64 (x1+(imin x2 (4096-(x1%4096)))))] ⟨zf6 (by omega),zf6 (by omega),tv⟩ fun ac wd hS=>?_;refine zpb ?_;replace hS:=hS.to (WS.absorb (H':=[(sb_,.cells [.string (ByteArray.extract sx (min (ByteArray.size sx) (Int.toNat (imin x2 (4096-(x1%4096))))) (ByteArray.size sx))] 9),(b,.cells [sc d.bp 0 m.cap m.cap,vi (m.cap:Int),sc d.bw d.ow d.nw d.cw,vi ((countTo m.com m.cap:Nat):Int),vb m.armed,vi (m.refuse:Int)] d.TA),(d.bp,.row d.TP m.cap m.cap (pagesV m.com d.pb 0)),(d.bw,.fn d.ow (d.ow+d.nw) (u64s d.ws d.ow))]) hS.mem 4 (d.pb (Int.toNat (x1/4096))) (Int.toNat (x1/4096)) T2 (laidF (fun o=>memx (4096*(Int.toNat (x1/4096))+o)) (Int.toNat (x1%4096)) (min (ByteArray.size sx) (Int.toNat (imin x2 (4096-(x1%4096))))) sx) [0,1,2,3] hpi (if_pos rfl));replace hS:=hS.to (WS.same (com':=m.com) (mem':=(laidF m.mem a.toNat (Int.toNat ((x1+(imin x2 (4096-(x1%4096))))-a)) s)) (pb':=d.pb) hS.mem (fun i _=>setB_two hpc i) (fun y _=>laid_step i1 i2 (q:=Int.toNat (x1%4096)) (k:=(Int.toNat (imin x2 (4096-(x1%4096))))) (by omega) (by have:=him (by omega);omega) (by have:=him (by omega);omega) (by have:=him (by omega);omega) y) (fun i _ _=>putN_two d.pb _ i));exact zpt (hS.next ((x1+(imin x2 (4096-(x1%4096)))),(x2-(imin x2 (4096-(x1%4096)))),(fun k=>(fun k=>Fx k∧k≠d.pb (Int.toNat (x1/4096))) k∨k=d.pb (Int.toNat (x1/4096))),(laidF m.mem a.toNat (Int.toNat ((x1+(imin x2 (4096-(x1%4096))))-a)) s),(ByteArray.extract sx (min (ByteArray.size sx) (Int.toNat (imin x2 (4096-(x1%4096))))) (ByteArray.size sx))) ⟨(by first|omega|assumption|(simp;done)|(simp;omega)),(by rfl),(by exact ext_step i2 (by have:=him (by omega);omega) (by have:=him (by omega);omega)),tv⟩ (by dsimp only;omega))
 ·
  refine wp_exit ?_;refine zpe ?_;refine zpe ?_;refine zph ?_;replace hS:=hS.to (WS.closeL (H':=[(sb_,.cells [.string sx] 9)]) (cap:=m.cap) (cnt:=countTo m.com m.cap) (refuse:=m.refuse) (com:=m.com) (mem:=memx) (pb:=d.pb) (Fq:=Fx) hS.mem 1 2 3 b d.bp d.bw d.ow d.nw d.cw m.armed d.TA d.TP d.ws [0] hW hcl hrl hbw rfl);refine St.fallC 0 hS (.tuple #[]) [] tv fun hw=>?_;refine⟨(fun k=>k=b∨k=d.bp∨k=d.bw∨Fx k),retd rfl,(res_eq (r:=arR b (fun k=>k=b∨k=d.bp∨k=d.bw∨Fx k) (⟨m.cap,m.com,memx,m.armed,m.refuse⟩)) (by rw [i1,show Int.toNat (x1-a)=ByteArray.size s by omega];rfl) (hw.res 0)),(hw.wins 0 (show _=some (sb_,.cells [.string sx] 9) by as_aux_lemma=>kernel_rfl)),(HE.cells_eq (hw.get 0 sb_ (.cells [.string sx] 9)) ?_),hw.fr0⟩
  all_goals (first|rfl|(rw [i2,show Int.toNat (x1-a)=ByteArray.size s by omega]))
theorem ar_Put (b:Nat)(F:Nat→Prop)(m:AM)(a:Int)(s:ByteArray)(w:World)(hr:(arR b F m).R w):
    Calls Tryz.prog 84 #[pt b 0,vi a,.string s] w fun e w'=>∃(F':Nat→Prop),e=.returned (vi (chkE m a (((ByteArray.size s):Nat):Int)))∧(arR b F' (putM m a s)).R w'∧Fr w w' F F':=by
 refine enter (args:=[pt b 0,vi a,.string s]) (D:=F) (A:=[arR b F m]) Tryz.func84 rfl 22 rfl [] (WS.startA (r:=arR b F m) hr trivial trivial) fun ac hS=>?_;refine hS.regS [0,0] [0,1] fun ν1=>seg [(5,pt (ν1 0) 0)] [(0,some ((ν1 0),.cells [.string s] 9))] [] tv fun ac wd hS=>?_;refine wp_seq ?_;refine zwq ?_;refine hS.opsC 4 [0,0,0,0] [0,1,5] fun _=>seg [(8,pt b 0),(9,vi a),(11,vi ((ByteArray.size s:Nat):Int))] [(0,none)] [.e (ν1 0)] tv fun ac wd hS=>?_;refine hS.call0 80 #[pt b 0,vi a,vi ((ByteArray.size s:Nat):Int)] 12 (ar_check b F m a ((ByteArray.size s:Nat):Int) _ (hS.mem.res 0)) fun ac wd hS=>?_;refine hS.opsC 1 [0] [0,1,5] (sg [(7,vi (chkE m a ((ByteArray.size s:Nat):Int)))] [(0,none)] fun ac wd hS=>?_);refine zlq ?_;refine hS.regS [0,0] [0,1,5,7] (sg [(14,vb (((chkE m a ((ByteArray.size s:Nat):Int)):Int)!=0))] [(0,none)] fun ac wd hS=>?_);refine hS.condC (((chkE m a ((ByteArray.size s:Nat):Int)):Int)!=0) (fun hb1o hb1=>?_) (fun hb1o hb1=>?_)
 ·
  have hno:=hb1;refine hS.regS [0,0] [] (sg [(6,vi (chkE m a ((ByteArray.size s:Nat):Int)))] [] fun ac wd hS=>?_);refine wp_ret ?_;refine zpr ?_;refine St.retC 0 hS (vi (chkE m a ((ByteArray.size s:Nat):Int))) [] tv fun hw=>?_;refine⟨F,retd (vint ?_),(res_eq (r:=arR b F m) (by first|exact congrArg _ (putM_no (by omega))|exact congrArg _ (putM_yes hthr)) (hw.res 0)),hw.frA⟩
  all_goals (first|rfl|omega)
 ·
  have hthr:=thr_of hb1;refine wp_skip ?_;refine zpt ?_;refine zwq ?_;refine hS.opsC 5 [0,0,0,0,0] [] fun _=>seg [(16,pt b 0),(17,vi a),(19,vi ((ByteArray.size s:Nat):Int)),(20,.func (.func 124) #[] #[pt (ν1 0) 0])] [(0,none)] [.e (ν1 0)] tv fun ac wd hS=>?_;refine hS.callC 81 #[pt b 0,vi a,vi ((ByteArray.size s:Nat):Int),.func (.func 124) #[] #[pt (ν1 0) 0]] (each_Put b F m a (ν1 0) s _ (hS.mem.res 0) (hS.mem.get 0 (ν1 0) (.cells [.string s] 9)) (hS.mem.nF (g:=(ν1 0)) (r:=arR b F m) 0 0) (by first|assumption|omega|(simp_all;done)|(simp_all;omega))) ?_;rintro _ wd ⟨F2,rfl,hA,hWn,hM,hF⟩;refine⟨.tuple #[],rfl,?_⟩;replace hS:=(hS.to (hS.mem.stepAM 0 0 rfl hA (show _=some ((ν1 0),.cells [.string s] 9) by as_aux_lemma=>kernel_rfl) rfl rfl hM hWn hF)).put (d:=21) (v:=.tuple #[]) (by decide);clear hF;refine zlq ?_;refine hS.regS [0] [] (sg [(6,vi 0)] [] fun ac wd hS=>?_);refine wp_ret ?_;refine St.retC 0 hS (vi 0) [] tv fun hw=>?_;refine⟨F2,retd (vint ?_),(res_eq (r:=arR b F2 (laidM m a.toNat s)) (by first|exact congrArg _ (putM_no (by omega))|exact congrArg _ (putM_yes hthr)) (hw.res 0)),hw.frA⟩
  all_goals (first|rfl|omega)
def wholeB (k:Int):Bool:=((k==1||k==2)||k==4)||k==8
theorem wholeB_le {k:Int}(h:wholeB k=true):1≤k∧k≤8:=by
  unfold wholeB at h
  simp at h
  omega
theorem bytS_size {m:AM}{a n:Int}(h:thr m a n=true):(bytS m a n).size=n.toNat:=by
  unfold bytS;rw [if_pos h,bs_size]
def ldN (s:ByteArray):Nat→Int
  |0=>0
  |i+1=>ior .u64 (ldN s i) (IntKind.wrap .u64 ((bat s (i:Int))*2^(min (Int.toNat (8*(i:Int))) 64)))
theorem ldN_step {s:ByteArray}{x y:Int}(h:x=ldN s y.toNat)(h0:0≤y):ior .u64 x (IntKind.wrap .u64 ((bat s y)*2^(min (Int.toNat (8*y)) 64)))=ldN s (y+1).toNat:=by
  obtain⟨i,rfl⟩:∃i:Nat,y=i:=⟨y.toNat,by omega⟩;subst h;rw [show((i:Int)+1).toNat=i+1 by omega,Int.toNat_natCast]
  rfl
def ldE (m:AM)(a k:Int):Int:=if wholeB k then chkE m a k else 2
def ldV (m:AM)(a k:Int):Int:=if wholeB k&&thr m a k then ldN (bytS m a k) k.toNat else 0
theorem ld_e1 {m:AM}{a k:Int}(h:wholeB k=false):(2:Int)=ldE m a k:=by unfold ldE;rw [h];rfl
theorem ld_e2 {m:AM}{a k:Int}(h:wholeB k=true):ldE m a k=chkE m a k:=by unfold ldE;rw [h];rfl
theorem ld_v1 {m:AM}{a k:Int}(h:wholeB k=false):(0:Int)=ldV m a k:=by unfold ldV;rw [h];rfl
theorem thr_no {m:AM}{a k:Int}(h:chkE m a k≠0):thr m a k=false:=by
  unfold chkE at h
  cases ht:thr m a k with
  |false=>rfl
  |true=>rw [ht]at h;exact absurd rfl h
theorem ld_v2 {m:AM}{a k:Int}(h:chkE m a k≠0):(0:Int)=ldV m a k:=by unfold ldV;rw [thr_no h,Bool.and_false];rfl
theorem ld_v4 {m:AM}{a k:Int}(h:wholeB k=true)(ht:thr m a k=true):ldN (bytS m a k) k.toNat=ldV m a k:=by unfold ldV;rw [h,ht];rfl
theorem chk_thr {m:AM}{a k:Int}(h:thr m a k=true):chkE m a k=0:=by unfold chkE;rw [h];rfl
def u8 (t:Int):UInt8:=UInt8.ofNat t.toNat
theorem u8_toNat {t:Int}(h:0≤t∧t≤255):((u8 t).toNat:Int)=t:=by
  unfold u8
  rw [UInt8.toNat_ofNat'];omega
def putF (f:Nat→UInt8)(i:Nat)(v:UInt8)(x:Nat):UInt8:=if x=i then v else f x
theorem bytes_puti (f:Nat→UInt8)(i:Nat)(t:Int)(h:0≤t∧t≤255)(o:Nat):bytes (putF f i (u8 t)) 0 o=(fun x=>if x=i then Value.int .u8 t else bytes f 0 x) o:=by
  unfold bytes putF
  simp only [Nat.sub_zero]
  split
  · rw [u8_toNat h]
  · rfl
theorem wrap_u8 (x:Int):0≤IntKind.u8.wrap x∧IntKind.u8.wrap x≤255:=by
  rw [IntKind.wrap_u8];omega
theorem shr2_u64 {a b:Int}(h0:0≤b)(h1:b≤63)(h2:True):0≤b∧Int.fdiv a (2^(min (Int.toNat b) 64))=a/2^b.toNat:=shr2_i64 h0 h1 h2
def stB (x:Int)(i:Nat):UInt8:=u8 (IntKind.u8.wrap (x/2^Int.toNat (8*(i:Int))))
def stF (x:Int)(n:Nat)(j:Nat):UInt8:=if j<n then stB x j else 0
theorem stF_zero (x:Int):(fun _=>0)=stF x 0:=rfl
theorem stF_step {x y:Int}{f:Nat→UInt8}(h:f=stF x y.toNat)(h0:0≤y):putF f y.toNat (u8 (IntKind.u8.wrap (x/2^Int.toNat (8*y))))=stF x (y+1).toNat:=by
  obtain⟨i,rfl⟩:∃i:Nat,y=i:=⟨y.toNat,by omega⟩;subst h
  funext j
  rw [show((i:Int)+1).toNat=i+1 by omega,Int.toNat_natCast]
  unfold putF stF
  by_cases hj:j=i
  · rw [if_pos hj,if_pos (by omega),hj];rfl
  · rw [if_neg hj]
    by_cases h2:j<i
    · rw [if_pos h2,if_pos (by omega)]
    · rw [if_neg h2,if_neg (by omega)]
theorem stF_bs {x k:Int}{f:Nat→UInt8}(h:f=stF x 8)(hk:k≤8):bs (fun j=>f (0+j)) k.toNat=bs (stB x) k.toNat:=by
  subst h;refine bs_congr fun j hj=>?_;rw [Nat.zero_add];unfold stF;rw [if_pos (by omega)]
def stE (m:AM)(a k:Int):Int:=if wholeB k then chkE m a k else 2
def stM (m:AM)(a k x:Int):AM:=if wholeB k then putM m a (bs (stB x) k.toNat)else m
theorem st_e1 {m:AM}{a k:Int}(h:wholeB k=false):(2:Int)=stE m a k:=by unfold stE;rw [h];rfl
theorem st_m1 {m:AM}{a k x:Int}(h:wholeB k=false):m=stM m a k x:=by unfold stM;rw [h];rfl
theorem st_e2 {m:AM}{a k x:Int}(h:wholeB k=true):chkE m a ((ByteArray.size (bs (stB x) k.toNat):Nat):Int)=stE m a k:=by
  unfold stE;rw [h,bs_size,show((k.toNat:Nat):Int)=k by have:=wholeB_le h;omega];rfl
theorem st_m2 {m:AM}{a k x:Int}(h:wholeB k=true):putM m a (bs (stB x) k.toNat)=stM m a k x:=by unfold stM;rw [h];rfl
theorem ar_whole (k:Int)(w:World):
    Calls Tryz.prog 83 #[vi k] w fun e w'=>e=.returned (vb (wholeB k))∧Fr w w' no no:=by
 refine enter (args:=[vi k]) (D:=no) (A:=[]) Tryz.func83 rfl 17 rfl [] (WS.startL trivial) fun ac hS=>?_;refine hS.regS [0] [0] (sg [] [] fun ac wd hS=>?_);refine hS.regS [0,0,0,3,3,80,0,3,3,80,0,3,3,80,0] [] (sg [(2,vb (((((k:Int)==1)||((k:Int)==2))||((k:Int)==4))||((k:Int)==8)))] [] fun ac wd hS=>?_);refine wp_ret ?_;refine St.retC 0 hS (vb (((((k:Int)==1)||((k:Int)==2))||((k:Int)==4))||((k:Int)==8))) [] tv fun hw=>?_;refine⟨retd (vbool ?_),hw.fr0⟩
 all_goals (first|rfl|(unfold wholeB;simp;done))
theorem ar_Load (b:Nat)(F:Nat→Prop)(m:AM)(a:Int)(k:Int)(w:World)(hr:(arR b F m).R w):
    Calls Tryz.prog 33 #[pt b 0,vi a,vi k] w fun e w'=>e=.returned (.tuple #[vu (ldV m a k),vi (ldE m a k)])∧Fr w w' no no:=by
 refine enter (args:=[pt b 0,vi a,vi k]) (D:=no) (A:=[]) Tryz.func33 rfl 44 rfl [] (WS.startL trivial) fun ac hS=>?_;refine hS.regS [0,0] [0,1,2] (sg [] [] fun ac wd hS=>?_);refine wp_seq ?_;refine wp_block ?_;refine hS.regS [0,0,0] [0,1,2] (sg [(12,vb false)] [] fun ac wd hS=>?_);refine hS.condF ?_;refine zwq ?_;refine hS.opsC 1 [0] [0,1,2] (sg [(16,vi k)] [] fun ac wd hS=>?_);refine hS.call0 83 #[vi k] 17 (ar_whole k _) fun ac wd hS=>?_;refine hS.opsC 2 [0,0] [0,1,2] (sg [(15,vb (!(wholeB k)))] [] fun ac wd hS=>?_);refine zlq ?_;refine hS.condC (!(wholeB k)) (fun hb1o hb1=>?_) (fun hb1o hb1=>?_)
 ·
  have hwh:wholeB k=false:=by simpa using hb1
  refine hS.regS [0,0] [] (sg [(6,vu 0),(7,vi 2)] [] fun ac wd hS=>?_);refine wp_ret ?_;refine zpc ?_;refine zpr ?_;refine St.retC 0 hS (.tuple #[vu 0,vi 2]) [] tv fun hw=>?_;refine⟨retd (tuple2 (vint ?_) (vint ?_)),hw.fr0⟩
  all_goals (first|exact ld_e1 hwh|exact(ld_e2 hwh).symm|exact ld_v1 hwh|exact ld_v2 (by omega)|(rw [i1,show Int.toNat x30=Int.toNat k by omega];exact ld_v4 hwh hthr)|(rw [ld_e2 hwh];omega))
 ·
  have hwh:wholeB k=true:=by simpa using hb1
  obtain⟨hk1,hk8⟩:=wholeB_le hwh;refine wp_skip ?_;refine zpb ?_;refine zpt ?_;refine zwq ?_;refine hS.opsC 3 [0,0,0] [2] (sg [(20,pt b 0),(21,vi a),(22,vi k)] [] fun ac wd hS=>?_);refine hS.call0 52 #[pt b 0,vi a,vi k] 23 (ar_Bytes b F m a k _ (Res.keep hr hS.mem.fr)) fun ac wd hS=>?_;refine hS.opsC 5 [0,0,0,0,0] [2] (sg [(8,.string (bytS m a k)),(9,vi (chkE m a k))] [] fun ac wd hS=>?_);refine zlq ?_;refine wp_seq ?_;refine hS.regS [0,0] [2,8,9] (sg [(27,vb (((chkE m a k):Int)!=0))] [] fun ac wd hS=>?_);refine hS.condC (((chkE m a k):Int)!=0) (fun hb2o hb2=>?_) (fun hb2o hb2=>?_)
  ·
   have hno:=hb2;refine hS.regS [0,0,0] [] (sg [(6,vu 0),(7,vi (chkE m a k))] [] fun ac wd hS=>?_);refine wp_ret ?_;refine zpr ?_;refine St.retC 0 hS (.tuple #[vu 0,vi (chkE m a k)]) [] tv fun hw=>?_;refine⟨retd (tuple2 (vint ?_) (vint ?_)),hw.fr0⟩
   all_goals (first|exact ld_e1 hwh|exact(ld_e2 hwh).symm|exact ld_v1 hwh|exact ld_v2 (by omega)|(rw [i1,show Int.toNat x30=Int.toNat k by omega];exact ld_v4 hwh hthr)|(rw [ld_e2 hwh];omega))
  ·
   have hthr:=thr_of hb2;have hch:=hb2;have hsz:=bytS_size hthr;refine wp_skip ?_;refine zpt ?_;refine hS.regS [0] [2,8] (sg [(10,vu 0)] [] fun ac wd hS=>?_);refine wp_seq ?_;refine hS.regS [0,0] [8,10] (sg [(29,vi k),(30,vi 0)] [] fun ac wd hS=>?_);refine wp_block ?_;refine St.loopC (σ:=Int×Int) (fun(x:Int×Int)=>match x with|(x10,x30)=>⟨[(8,[],.string (bytS m a k)),(10,[],vu x10),(29,[],vi k),(30,[],vi x30)],[],[],(0≤x30∧x30≤k)∧(x10=ldN (bytS m a k) x30.toNat)∧True,Int.toNat (k-x30)⟩) (0,0) ⟨(by first|omega|rfl),(by first|omega|rfl),trivial⟩ hS ?_;clear hS;rintro⟨x10,x30⟩ ⟨i0,i1,-⟩ ac wd hS;replace i0:0≤x30∧x30≤k:=i0;replace i1:x10=ldN (bytS m a k) x30.toNat:=i1;have hby:=bat_byte (bytS m a k) x30;refine hS.regS [0] [8,10,29,30] (sg [(31,vb (decide ((x30:Int)<k)))] [] fun ac wd hS=>?_);refine wp_seq ?_;refine hS.condC (decide ((x30:Int)<k)) (fun hb3o hb3=>?_) (fun hb3o hb3=>?_)
   ·
    refine wp_skip ?_;refine zpt ?_;refine wp_seq ?_;refine wp_block ?_;refine hS.regS [0,0] [8,10,29,30] (sg [(11,vi x30)] [] fun ac wd hS=>?_);refine hS.regC [0,0,0,10,20,0,20,10,0,0] [8,29,30] fun _=>seg [(10,vu (ior .u64 x10 (IntKind.wrap .u64 ((bat (bytS m a k) x30)*2^(min (Int.toNat (8*x30)) 64)))))] [] [.p (0≤(8*x30)),.p (fit .i64 (8*x30)),.p (fit .u64 (bat (bytS m a k) x30)),.p (0≤x30∧x30<(ByteArray.size (bytS m a k):Int))] ⟨by omega,zf6 (by omega),fit_u64 (by omega),(by omega),tv⟩ fun ac wd hS=>?_;refine zpb ?_;refine zpt ?_;refine hS.regC [20,0] [8,10,29] fun _=>seg [(30,vi (x30+1))] [] [.p (fit .i64 (x30+1))] ⟨zf6 (by omega),tv⟩ fun ac wd hS=>?_;exact zpt (hS.next ((ior .u64 x10 (IntKind.wrap .u64 ((bat (bytS m a k) x30)*2^(min (Int.toNat (8*x30)) 64)))),(x30+1)) ⟨(by first|omega|assumption|(simp;done)|(simp;omega)),(by exact ldN_step i1 (by omega)),tv⟩ (by dsimp only;omega))
   ·
    refine wp_exit ?_;refine zpe ?_;refine zpe ?_;refine zph ?_;refine zpt ?_;refine hS.regS [0,0,0] [] (sg [(6,vu x10),(7,vi 0)] [] fun ac wd hS=>?_);refine wp_ret ?_;refine St.retC 0 hS (.tuple #[vu x10,vi 0]) [] tv fun hw=>?_;refine⟨retd (tuple2 (vint ?_) (vint ?_)),hw.fr0⟩
    all_goals (first|exact ld_e1 hwh|exact(ld_e2 hwh).symm|exact ld_v1 hwh|exact ld_v2 (by omega)|(rw [i1,show Int.toNat x30=Int.toNat k by omega];exact ld_v4 hwh hthr)|(rw [ld_e2 hwh];omega))
theorem zf_page123 (o:Nat)(ho:o<8):bytes (fun _=>0) 0 o=zf Tryz.prog 123 o:=zf_all (n:=8) (v:=.int .u8 0) (by as_aux_lemma=>kernel_rfl) o ho
theorem ar_Store (b:Nat)(F:Nat→Prop)(m:AM)(a:Int)(k:Int)(v:Int)(w:World)(hr:(arR b F m).R w):
    Calls Tryz.prog 32 #[pt b 0,vi a,vi k,vu v] w fun e w'=>∃(F':Nat→Prop),e=.returned (vi (stE m a k))∧(arR b F' (stM m a k v)).R w'∧Fr w w' F F':=by
 refine enter (args:=[pt b 0,vi a,vi k,vu v]) (D:=F) (A:=[arR b F m]) Tryz.func32 rfl 35 rfl [] (WS.startA (r:=arR b F m) hr trivial trivial) fun ac hS=>?_;refine hS.regS [0] [0,1,2,3] (sg [] [] fun ac wd hS=>?_);refine wp_seq ?_;refine wp_block ?_;refine hS.regS [0,0,0] [0,1,2,3] (sg [(11,vb false)] [] fun ac wd hS=>?_);refine hS.condF ?_;refine zwq ?_;refine hS.opsC 1 [0] [0,1,2,3] (sg [(15,vi k)] [] fun ac wd hS=>?_);refine hS.call0 83 #[vi k] 16 (ar_whole k _) fun ac wd hS=>?_;refine hS.opsC 2 [0,0] [0,1,2,3] (sg [(14,vb (!(wholeB k)))] [] fun ac wd hS=>?_);refine zlq ?_;refine hS.condC (!(wholeB k)) (fun hb1o hb1=>?_) (fun hb1o hb1=>?_)
 ·
  have hwh:wholeB k=false:=by simpa using hb1
  refine hS.regS [0] [] (sg [(8,vi 2)] [] fun ac wd hS=>?_);refine wp_ret ?_;refine zpc ?_;refine zpr ?_;refine St.retC 0 hS (vi 2) [] tv fun hw=>?_;refine⟨F,retd (vint ?_),(res_eq (r:=arR b F m) (by first|exact congrArg _ (st_m1 hwh)|exact congrArg _ (st_m2 hwh)) (hw.res 0)),hw.frA⟩
  all_goals (first|exact st_e1 hwh|exact st_e2 hwh)
 ·
  have hwh:wholeB k=true:=by simpa using hb1
  obtain⟨hk1,hk8⟩:=wholeB_le hwh;refine wp_skip ?_;refine zpb ?_;refine zpt ?_;refine hS.regS [50] [0,1,2,3] fun ν6=>seg [(9,pt (ν6 0) 0)] [(0,some ((ν6 0),.row 123 8 8 (zf Tryz.prog 123)))] [.p ((8:Nat)=8)] ⟨rfl,tv⟩ fun ac wd hS=>?_;replace hS:=hS.to (hS.mem.tellR 0 (b:=(ν6 0)) (e:=123) (m:=8) (tot:=8) (f:=(zf Tryz.prog 123)) (bytes (fun _=>0) 0) (fun o ho=>zf_page123 o ho));refine wp_seq ?_;refine hS.regS [0] [0,1,2,3,9] (sg [(18,vi 0)] [(0,none)] fun ac wd hS=>?_);refine wp_block ?_;refine St.loopC (σ:=Int×(Nat→UInt8)) (fun(x:Int×(Nat→UInt8))=>match x with|(x18,fx)=>⟨[(0,[],pt b 0),(1,[],vi a),(2,[],vi k),(3,[],vu v),(9,[],pt (ν6 0) 0),(18,[],vi x18)],[((ν6 0),.row 123 8 8 (bytes fx 0))],[arR b F m],(0≤x18∧x18≤8)∧(fx=stF v x18.toNat)∧True,Int.toNat (8-x18)⟩) (0,(fun _=>0)) ⟨(by first|omega|exact stF_zero _),(by first|omega|exact stF_zero _),trivial⟩ hS ?_;clear hS;rintro⟨x18,fx⟩ ⟨i0,i1,-⟩ ac wd hS;replace i0:0≤x18∧x18≤8:=i0;replace i1:fx=stF v x18.toNat:=i1;refine hS.regS [0] [0,1,2,3,9,18] (sg [(19,vb (decide ((x18:Int)<8)))] [(0,none)] fun ac wd hS=>?_);refine wp_seq ?_;refine hS.condC (decide ((x18:Int)<8)) (fun hb2o hb2=>?_) (fun hb2o hb2=>?_)
  ·
   refine wp_skip ?_;refine zpt ?_;refine wp_seq ?_;refine wp_block ?_;refine hS.regS [0,0] [0,1,2,3,9,18] (sg [(10,vi x18)] [(0,none)] fun ac wd hS=>?_);refine hS.regC [0,0,0,20,20,0,30,0] [0,1,2,3,9,18] fun _=>seg [] [(0,some ((ν6 0),.row 123 8 8 (fun x=>if x=0+Int.toNat x18*1 then v8 (IntKind.wrap .u8 (v/(2^Int.toNat (8*x18))))else(bytes fx 0) x)))] [.e (ν6 0),.p (0+Int.toNat x18*1<8),.p (0≤x18∧x18<((8:Nat):Int)),.p ((0:Int)≤(8*x18)∧Int.fdiv v (2^(min (Int.toNat (8*x18)) 64))=(v/(2^Int.toNat (8*x18)))),.p (fit .i64 (8*x18))] ⟨(by omega),(by omega),shr2_u64 (by omega) (by omega) (by trivial),zf6 (by omega),tv⟩ fun ac wd hS=>?_;replace hS:=hS.to (hS.mem.tellR 0 (b:=(ν6 0)) (e:=123) (m:=8) (tot:=8) (f:=(fun x=>if x=0+Int.toNat x18*1 then v8 (IntKind.wrap .u8 (v/(2^Int.toNat (8*x18))))else(bytes fx 0) x)) (bytes (putF fx x18.toNat (u8 (IntKind.wrap .u8 (v/(2^Int.toNat (8*x18)))))) 0) (fun o ho=>by first|exact bytes_puti fx x18.toNat (IntKind.wrap .u8 (v/(2^Int.toNat (8*x18)))) (by exact wrap_u8 _) o|(rw [Nat.mul_one,Nat.zero_add];exact bytes_puti fx x18.toNat (IntKind.wrap .u8 (v/(2^Int.toNat (8*x18)))) (by exact wrap_u8 _) o)));refine zpb ?_;refine zpt ?_;refine hS.regC [20,0] [0,1,2,3,9] fun _=>seg [(18,vi (x18+1))] [(0,none)] [.p (fit .i64 (x18+1))] ⟨zf6 (by omega),tv⟩ fun ac wd hS=>?_;exact zpt (hS.next ((x18+1),(putF fx x18.toNat (u8 (IntKind.wrap .u8 (v/(2^Int.toNat (8*x18))))))) ⟨(by first|omega|assumption|(simp;done)|(simp;omega)),(by exact stF_step i1 (by omega)),tv⟩ (by dsimp only;omega))
  ·
   refine wp_exit ?_;refine zpe ?_;refine zpe ?_;refine zph ?_;refine zpt ?_;refine zwq ?_;refine hS.opsC 3 [0,0,0] [9] (sg [(29,pt b 0),(30,vi a),(31,vi k)] [(0,none)] fun ac wd hS=>?_);refine Runs1.list ?_;obtain⟨i_,hi_,hz_,hs_,hb_⟩:=info_get (P:=Tryz.prog) (e:=5) (z:=v8 0) (s:=1) (b:=1) (by kernel_rfl);refine St.slcP hS 123 (.tmp 9) none (some (.tmp 31)) rfl rfl (by decide) Tryz.underlying123 hi_ hs_ (b:=(ν6 0)) (q:=0) (k:=k.toNat) 0 k (by omega) (by omega) (by omega) fun ac hS=>?_;refine Runs1.list ?_;refine St.toStr hS (.tmp 32) 75 9 rfl rfl (by decide) Tryz.underlying75 Tryz.underlying5 Tryz.underlying9 (b:=(ν6 0)) (off:=0) (k:=k.toNat) (cp:=8) (fun j=>fx (0+j)) (Cells8.row (hS.mem.get 0 (ν6 0) (.row 123 8 8 (bytes fx 0))) (by omega)) fun ac hS=>?_;replace hS:=hS.fix 33 (.string (bs (stB v) k.toNat)) (vstr (by exact stF_bs (f:=fx) (by rw [i1,show Int.toNat x18=8 by omega]) hk8));refine hS.callC 84 #[pt b 0,vi a,.string (bs (stB v) k.toNat)] (ar_Put b F m a (bs (stB v) k.toNat) _ (hS.mem.res 0)) ?_;rintro _ wd ⟨F3,rfl,hA,hF⟩;refine⟨vi (chkE m a (((ByteArray.size (bs (stB v) k.toNat)):Nat):Int)),rfl,?_⟩;replace hS:=hS.sA 0 rfl hA hF 34 (vi (chkE m a (((ByteArray.size (bs (stB v) k.toNat)):Nat):Int)));clear hF;refine hS.opsC 1 [0] [] (sg [(8,vi (chkE m a (((ByteArray.size (bs (stB v) k.toNat)):Nat):Int)))] [(0,none)] fun ac wd hS=>?_);refine zlq ?_;refine wp_ret ?_;refine St.retC 0 hS (vi (chkE m a (((ByteArray.size (bs (stB v) k.toNat)):Nat):Int))) [] tv fun hw=>?_;refine⟨F3,retd (vint ?_),(res_eq (r:=arR b F3 (putM m a (bs (stB v) k.toNat))) (by first|exact congrArg _ (st_m1 hwh)|exact congrArg _ (st_m2 hwh)) (hw.res 0)),hw.frA⟩
   all_goals (first|exact st_e1 hwh|exact st_e2 hwh)
theorem law03_awake (w:World)(hh0:HE.holds w 1 (.fn 0 64 dbT)):
    Calls Tryz.prog 154 #[] w fun e w'=>e=.returned (vb true)∧Fr w w' no no:=by
 refine enter (args:=[]) (D:=no) (A:=[]) Tryz.func154 rfl 44 rfl [(1,.fn 0 64 dbT)] (WS.startL ⟨⟨rfl,hh0⟩,trivial⟩) fun ac hS=>?_;refine hS.regS [0] [] (sg [] [(0,none)] fun ac wd hS=>?_);refine zwq ?_;refine hS.callC 14 #[vi 2] (ar_New 2 _) ?_;rintro _ wd ⟨b'1,F2,rfl,hN,hF⟩;refine⟨pt b'1 0,rfl,?_⟩;replace hS:=(hS.to (hS.mem.newA hN hF)).put (d:=8) (v:=pt b'1 0) (by decide);clear hF;refine hS.opsC 1 [0] [] (sg [(1,pt b'1 0)] [(0,none)] fun ac wd hS=>?_);refine zlq ?_;refine zwq ?_;refine hS.opsC 1 [0] [1] (sg [(9,pt b'1 0)] [(0,none)] fun ac wd hS=>?_);refine hS.callC 56 #[pt b'1 0,vi 1,vi 1] (ar_Commit b'1 F2 (AM.new 2) 1 1 _ (hS.mem.res 0)) ?_;rintro _ wd ⟨F3,rfl,hA,hF⟩;refine⟨vi (comE (AM.new 2) 1 1),rfl,?_⟩;replace hS:=hS.sA 0 rfl hA hF 10 (vi (comE (AM.new 2) 1 1));clear hF;refine hS.opsC 1 [0] [1] (sg [(2,vi (comE (AM.new 2) 1 1))] [(0,none)] fun ac wd hS=>?_);refine zlq ?_;refine zwq ?_;refine hS.opsC 1 [0] [1,2] (sg [(11,pt b'1 0)] [(0,none)] fun ac wd hS=>?_);refine hS.callC 32 #[pt b'1 0,vi 4096,vi 2,vu 258] (ar_Store b'1 F3 (comM (AM.new 2) 1 1) 4096 2 258 _ (hS.mem.res 0)) ?_;rintro _ wd ⟨F4,rfl,hA,hF⟩;refine⟨vi (stE (comM (AM.new 2) 1 1) 4096 2),rfl,?_⟩;replace hS:=hS.sA 0 rfl hA hF 12 (vi (stE (comM (AM.new 2) 1 1) 4096 2));clear hF;refine hS.opsC 1 [0] [1,2] (sg [(3,vi (stE (comM (AM.new 2) 1 1) 4096 2))] [(0,none)] fun ac wd hS=>?_);refine zlq ?_;refine zwq ?_;refine hS.opsC 1 [0] [1,2,3] (sg [(14,pt b'1 0)] [(0,none)] fun ac wd hS=>?_);refine hS.call0 52 #[pt b'1 0,vi 4096,vi 3] 15 (ar_Bytes b'1 F4 (stM (comM (AM.new 2) 1 1) 4096 2 258) 4096 3 _ (hS.mem.res 0)) fun ac wd hS=>?_;refine hS.opsC 5 [0,0,0,0,0] [1,2,3] (sg [(4,.string (bytS (stM (comM (AM.new 2) 1 1) 4096 2 258) 4096 3)),(5,vi (chkE (stM (comM (AM.new 2) 1 1) 4096 2 258) 4096 3))] [(0,none)] fun ac wd hS=>?_);refine zlq ?_;refine zwq ?_;refine hS.opsC 1 [0] [2,3,4,5] (sg [(19,pt b'1 0)] [(0,none)] fun ac wd hS=>?_);refine hS.call0 33 #[pt b'1 0,vi 4095,vi 1] 20 (ar_Load b'1 F4 (stM (comM (AM.new 2) 1 1) 4096 2 258) 4095 1 _ (hS.mem.res 0)) fun ac wd hS=>?_;refine hS.opsC 5 [0,0,0,0,0] [2,3,4,5] (sg [(7,vi (ldE (stM (comM (AM.new 2) 1 1) 4096 2 258) 4095 1))] [(0,none)] fun ac wd hS=>?_);refine zlq ?_;refine zwq ?_;refine hS.call0 155 #[] 23 (law02_Awake _ (hS.mem.get 0 1 (.fn 0 64 dbT))) fun ac wd hS=>?_;refine hS.opsC 21 [0,1,1,70,0,3,3,80,0,3,3,80,0,3,3,80,0,3,3,80,0] [] fun _=>seg [(0,vb (((((((comE (AM.new 2) 1 1):Int)==0)&&(((stE (comM (AM.new 2) 1 1) 4096 2):Int)==0))&&(((chkE (stM (comM (AM.new 2) 1 1) 4096 2 258) 4096 3):Int)==0))&&(ByteArray.toList (bytS (stM (comM (AM.new 2) 1 1) 4096 2 258) 4096 3)==ByteArray.toList (⟨#[2,1,0]⟩:ByteArray)))&&(((ldE (stM (comM (AM.new 2) 1 1) 4096 2 258) 4095 1):Int)==3)))] [(0,none)] [.t true,.t true,.t true] tv fun ac wd hS=>?_;refine zlq ?_;refine wp_ret ?_;refine St.retC 0 hS (vb (((((((comE (AM.new 2) 1 1):Int)==0)&&(((stE (comM (AM.new 2) 1 1) 4096 2):Int)==0))&&(((chkE (stM (comM (AM.new 2) 1 1) 4096 2 258) 4096 3):Int)==0))&&(ByteArray.toList (bytS (stM (comM (AM.new 2) 1 1) 4096 2 258) 4096 3)==ByteArray.toList (⟨#[2,1,0]⟩:ByteArray)))&&(((ldE (stM (comM (AM.new 2) 1 1) 4096 2 258) 4095 1):Int)==3))) [] tv fun hw=>?_;refine⟨retd (vbool ?_),hw.fr0⟩
 all_goals (first|rfl|decide+kernel)
theorem law03_Awake (w:World)(hh0:HE.holds w 1 (.fn 0 64 dbT)):
    Calls Tryz.prog 152 #[] w fun e w'=>e=.returned (vb true)∧Fr w w' no no:=by
 refine enter (args:=[]) (D:=no) (A:=[]) Tryz.func152 rfl 2 rfl [(1,.fn 0 64 dbT)] (WS.startL ⟨⟨rfl,hh0⟩,trivial⟩) fun ac hS=>?_;refine hS.regS [0] [] (sg [] [(0,none)] fun ac wd hS=>?_);refine zwq ?_;refine hS.call0 154 #[] 1 (law03_awake _ (hS.mem.get 0 1 (.fn 0 64 dbT))) fun ac wd hS=>?_;refine hS.opsC 1 [0] [] (sg [(0,vb true)] [(0,none)] fun ac wd hS=>?_);refine zlq ?_;refine wp_ret ?_;refine St.retC 0 hS (vb true) [] tv fun hw=>?_;refine⟨retd rfl,hw.fr0⟩
theorem byt_laid {m:AM}{a n:Int}{s:ByteArray}(ht:thr (laidM m a.toNat s) a n=true)(hn:s.size=n.toNat):bytS (laidM m a.toNat s) a n=s:=by
  unfold bytS
  rw [if_pos ht,←hn]
  conv=>rhs;rw [←bs_sb s]
  refine bs_congr fun j hj=>?_
  show laidF m.mem a.toNat s.size s (a.toNat+j)=sb s j
  unfold laidF
  rw [if_pos (by omega),Nat.add_sub_cancel_left]
theorem bat_sb (s:ByteArray)(i:Nat):bat s (i:Int)=((sb s i).toNat:Int):=rfl
theorem stB_nat (v i:Nat):(stB (v:Int) i).toNat=v/2^(8*i)%256:=by
  unfold stB u8
  rw [IntKind.wrap_u8,UInt8.toNat_ofNat',show Int.toNat (8*(i:Int))=8*i by omega]
  have e:((v:Int)/2^(8*i))=((v/2^(8*i):Nat):Int):=by
    rw [Int.natCast_ediv,Int.natCast_pow];rfl
  rw [e];omega
theorem ldN_num {v n:Nat}(hn:n≤8):∀i,i≤n→ldN (bs (stB (v:Int)) n) i=((v%2^(8*i):Nat):Int)
  |0,_=>by simp [ldN,Nat.mod_one]
  |i+1,hi=>by
    have ih:=ldN_num (v:=v) hn i (by omega)
    unfold ldN
    rw [ih,bat_sb,sb_bs (by omega),stB_nat,show min (Int.toNat (8*(i:Int))) 64=8*i by omega];have hp:2^(8*(i+1))=2^(8*i)*256:=by rw [show 8*(i+1)=8*i+8 by omega,Nat.pow_add]
    have h64:2^(8*i)*256≤2^64:=by rw [←hp];exact Nat.pow_le_pow_right (by omega) (by omega)
    have hb:v/2^(8*i)%256<256:=Nat.mod_lt _ (by omega);have hpos:0<2^(8*i):=Nat.pow_pos (by omega);have hlow:v%2^(8*i)<2^(8*i):=Nat.mod_lt _ hpos
    have hmul:v/2^(8*i)%256*2^(8*i)<2^64:=by
      have:(v/2^(8*i)%256+1)*2^(8*i)≤256*2^(8*i):=Nat.mul_le_mul_right _ (by omega);rw [Nat.add_mul]at this;omega
    have e2:((v/2^(8*i)%256:Nat):Int)*2^(8*i)=((v/2^(8*i)%256*2^(8*i):Nat):Int):=by
      rw [Int.natCast_mul,Int.natCast_pow];rfl
    rw [e2,u64_in ⟨by omega,by omega⟩,ior_u (by omega) hmul]
    congr 1
    rw [hp,Nat.mod_mul,Nat.or_comm,←Nat.shiftLeft_eq,←Nat.shiftLeft_add_eq_or_of_lt hlow,Nat.shiftLeft_eq,Nat.add_comm,Nat.mul_comm (2^(8*i))]
section
variable {P:Program}{c:Cx}{n:Nat}{E:Env}{H Hf:Heap}{A:List Res}{a:Act}{w:World}{ops:Array Oper}{R:Act→World→Prop}
theorem St.ordCG (i:Nat)(x:Bool){o:Oper}{rest:List (Nat×Nat)}(hS:St c n E H A a w)(f:FuncId)(args:Array Value){R':Ending→World→Prop}(hC:Calls P f args w R')(hk:∀e w',R' e w'→∃v,e=.returned v∧Stay Hf w'∧wpOrd P ops (Stay Hf) R rest (a.put o.dst v) w')
    (hi:ops[i]? =some o:=by rfl) (he:evCall P ops 1 0 E H o=some (f,args,[Ob.sem (.t x)]):=by as_aux_lemma=>kernel_rfl) (hg:guardsOk n ops [o]=true:=by as_aux_lemma=>kernel_rfl):wpOrd P ops (Stay Hf) R ((i,0)::rest) a w:=by
  have hb:∀d want,guardSlot ops o=some (d,want)→d<a.tmps.size:=by
    intro d want hd
    simp only [guardsOk,hd,Bool.and_true]at hg
    have:d<n:=by simpa using hg
    exact Nat.lt_of_lt_of_le this hS.size
  obtain⟨hw,hr⟩:=evCall_run (c:=c) (A:=A) he ⟨rfl,trivial⟩ hS.env hb;refine nAt_of_wpList1 hi (.inl ⟨hw,?_⟩)
  unfold nOp
  rw [hr w hS.mem]
  exact hC.mono fun e w' hR=>by
    obtain⟨v,h1,h2,h3⟩:=hk e w' hR;exact⟨v,h1,h2,h3⟩
end
def vchE (z a n:Int):Int:=if a<0∨n<0∨z<n∨z-n<a then 3 else 0
def vldE (m:AM)(o z a k:Int):Int:=if wholeB k then(if vchE z a k=0 then ldE m (o+a) k else 3)else 2
def vldV (m:AM)(o z a k:Int):Int:=if wholeB k then(if vchE z a k=0 then ldV m (o+a) k else 0)else 0
def vstE (m:AM)(o z a k:Int):Int:=if wholeB k then(if vchE z a k=0 then stE m (o+a) k else 3)else 2
def vstM (m:AM)(o z a k v:Int):AM:=if wholeB k then(if vchE z a k=0 then stM m (o+a) k v else m)else m
theorem vch_no {z a n:Int}(h:a<0∨n<0∨z<n∨z-n<a):(3:Int)=vchE z a n:=by unfold vchE;rw [if_pos h]
theorem vch_yes {z a n:Int}(h:¬(a<0∨n<0∨z<n∨z-n<a)):(0:Int)=vchE z a n:=by unfold vchE;rw [if_neg h]
theorem vch_3 {z a n:Int}(h:vchE z a n≠0):vchE z a n=3:=by unfold vchE at*;split at h<;>simp_all
theorem vch_in {z a n:Int}(h:vchE z a n=0):0≤a∧0≤n∧n≤z∧a≤z-n:=by
  unfold vchE at h
  split at h<;>omega
def vwhE (k:Int):Int:=if wholeB k then 0 else 2
theorem vwh_1 {k:Int}(h:vwhE k≠0):wholeB k=false:=by unfold vwhE at h;cases hw:wholeB k<;>simp_all
theorem vwh_0 {k:Int}(h:vwhE k=0):wholeB k=true:=by unfold vwhE at h;cases hw:wholeB k<;>simp_all
theorem vwh_2 {k:Int}(h:wholeB k=false):vwhE k=2:=by unfold vwhE;rw [h];rfl
theorem vst_a {m:AM}{o z a k:Int}(h:vwhE k≠0):vwhE k=vstE m o z a k:=by unfold vstE;rw [vwh_1 h,vwh_2 (vwh_1 h)];rfl
theorem vst_b {m:AM}{o z a k:Int}(h:vwhE k=0)(h2:vchE z a k≠0):vchE z a k=vstE m o z a k:=by unfold vstE;rw [vwh_0 h,if_pos rfl,if_neg h2];exact vch_3 h2
theorem vst_c {m:AM}{o z a k:Int}(h:vwhE k=0)(h2:vchE z a k=0):stE m (o+a) k=vstE m o z a k:=by unfold vstE;rw [vwh_0 h,if_pos rfl,if_pos h2]
theorem vst_d {m:AM}{o z a k v:Int}(h:vwhE k≠0):m=vstM m o z a k v:=by unfold vstM;rw [vwh_1 h];rfl
theorem vst_e {m:AM}{o z a k v:Int}(h2:vchE z a k≠0):m=vstM m o z a k v:=by unfold vstM;rw [if_neg h2];split<;>rfl
theorem vst_f {m:AM}{o z a k v:Int}(h:vwhE k=0)(h2:vchE z a k=0):stM m (o+a) k v=vstM m o z a k v:=by unfold vstM;rw [vwh_0 h,if_pos rfl,if_pos h2]
theorem vld_a {m:AM}{o z a k:Int}(h:vwhE k≠0):vwhE k=vldE m o z a k:=by unfold vldE;rw [vwh_1 h,vwh_2 (vwh_1 h)];rfl
theorem vld_b {m:AM}{o z a k:Int}(h:vwhE k=0)(h2:vchE z a k≠0):vchE z a k=vldE m o z a k:=by unfold vldE;rw [vwh_0 h,if_pos rfl,if_neg h2];exact vch_3 h2
theorem vld_c {m:AM}{o z a k:Int}(h:vwhE k=0)(h2:vchE z a k=0):ldE m (o+a) k=vldE m o z a k:=by unfold vldE;rw [vwh_0 h,if_pos rfl,if_pos h2]
theorem vld_d {m:AM}{o z a k:Int}(h:vwhE k≠0):0=vldV m o z a k:=by unfold vldV;rw [vwh_1 h];rfl
theorem vld_e {m:AM}{o z a k:Int}(h2:vchE z a k≠0):0=vldV m o z a k:=by unfold vldV;rw [if_neg h2];split<;>rfl
theorem vld_f {m:AM}{o z a k:Int}(h:vwhE k=0)(h2:vchE z a k=0):ldV m (o+a) k=vldV m o z a k:=by unfold vldV;rw [vwh_0 h,if_pos rfl,if_pos h2]
theorem vw_check (b:Nat)(a:Int)(n:Int)(o:Int)(z:Int)(w:World)(hz:0≤z∧z≤4294967296):
    Calls Tryz.prog 109 #[.agg #[pt b 0,vi o,vi z],vi a,vi n] w fun e w'=>e=.returned (vi (vchE z a n))∧Fr w w' no no:=by
 refine enter (args:=[.agg #[pt b 0,vi o,vi z],vi a,vi n]) (D:=no) (A:=[]) Tryz.func109 rfl 32 rfl [] (WS.startL trivial) fun ac hS=>?_;refine hS.regS [0,0] [1,2] fun ν1=>seg [(3,pt (ν1 0) 0)] [(0,some ((ν1 0),.cells [pt b 0,vi o,vi z] 49))] [] tv fun ac wd hS=>?_;refine wp_seq ?_;refine wp_block ?_;refine hS.regS [0,0,0,0] [1,2,3] fun _=>seg [(7,vb false)] [(0,none)] [.e (ν1 0)] tv fun ac wd hS=>?_;refine hS.condF ?_;refine hS.regS [0,0,0,3,3,80,0,3,3,3,3,80,0,3,3,3,3,23,3,80,0] [] fun _=>seg [(11,vb ((((decide ((a:Int)<0))||(decide ((n:Int)<0)))||(decide ((z:Int)<n)))||(decide (((z-n):Int)<a))))] [] [.p ((((((decide ((a:Int)<0))||(decide ((n:Int)<0)))||(decide ((z:Int)<n)))=false)∧True)→AllP [fit .i64 (z-n)]),.p ((((((decide ((a:Int)<0))||(decide ((n:Int)<0)))||(decide ((z:Int)<n)))=false)∧True)→AllP [((ν1 0):Nat)=(ν1 0)]),.p (((((decide ((a:Int)<0))||(decide ((n:Int)<0)))=false)∧True)→AllP [((ν1 0):Nat)=(ν1 0)])] ⟨(fun⟨hc0,_⟩=>by replace hc0:=nrm hc0;exact⟨zf6 (by omega),trivial⟩),(fun⟨hc0,_⟩=>by replace hc0:=nrm hc0;exact⟨rfl,trivial⟩),(fun⟨hc0,_⟩=>by replace hc0:=nrm hc0;exact⟨rfl,trivial⟩),tv⟩ fun ac wd hS=>?_;refine hS.condC ((((decide ((a:Int)<0))||(decide ((n:Int)<0)))||(decide ((z:Int)<n)))||(decide (((z-n):Int)<a))) (fun hb1o hb1=>?_) (fun hb1o hb1=>?_)
 ·
  refine hS.regS [0] [] (sg [(6,vi 3)] [] fun ac wd hS=>?_);refine wp_ret ?_;refine zpc ?_;refine zpr ?_;refine St.retC 0 hS (vi 3) [] tv fun hw=>?_;refine⟨retd (vint ?_),hw.fr0⟩
  all_goals (first|exact vch_no (by omega)|exact vch_yes (by omega))
 ·
  refine wp_skip ?_;refine zpb ?_;refine zpt ?_;refine hS.regS [0] [] (sg [(6,vi 0)] [] fun ac wd hS=>?_);refine wp_ret ?_;refine St.retC 0 hS (vi 0) [] tv fun hw=>?_;refine⟨retd (vint ?_),hw.fr0⟩
  all_goals (first|exact vch_no (by omega)|exact vch_yes (by omega))
theorem vw_whole (b:Nat)(k:Int)(o:Int)(z:Int)(w:World):
    Calls Tryz.prog 108 #[.agg #[pt b 0,vi o,vi z],vi k] w fun e w'=>e=.returned (vi (vwhE k))∧Fr w w' no no:=by
 refine enter (args:=[.agg #[pt b 0,vi o,vi z],vi k]) (D:=no) (A:=[]) Tryz.func108 rfl 18 rfl [] (WS.startL trivial) fun ac hS=>?_;refine hS.regS [0,0] [1] fun ν1=>seg [(2,pt (ν1 0) 0)] [(0,some ((ν1 0),.cells [pt b 0,vi o,vi z] 49))] [] tv fun ac wd hS=>?_;refine wp_seq ?_;refine wp_block ?_;refine hS.regS [0,0,0,0] [1] fun _=>seg [(5,vb false)] [] [.e (ν1 0)] tv fun ac wd hS=>?_;refine hS.condF ?_;refine wp_seq ?_;refine hS.regS [0,0,0] [1] (sg [(9,vb ((k:Int)==1))] [] fun ac wd hS=>?_);refine hS.condC ((k:Int)==1) (fun hb1o hb1=>?_) (fun hb1o hb1=>?_)
 ·
  refine wp_skip ?_;refine zpt ?_;refine hS.condC ((k:Int)==1) (fun hb2o hb2=>?_) (fun hb2o hb2=>?_)
  ·
   refine hS.regS [0] [] (sg [(4,vi 0)] [] fun ac wd hS=>?_);refine wp_ret ?_;refine zpc ?_;refine zpr ?_;refine St.retC 0 hS (vi 0) [] tv fun hw=>?_;refine⟨retd (vint ?_),hw.fr0⟩
   all_goals (unfold vwhE wholeB;simp_all;done)
  ·
   refine wp_skip ?_;refine zpb ?_;refine zpt ?_;refine hS.regS [0] [] (sg [(4,vi 2)] [] fun ac wd hS=>?_);refine wp_ret ?_;refine St.retC 0 hS (vi 2) [] tv fun hw=>?_;refine⟨retd (vint ?_),hw.fr0⟩
   all_goals (unfold vwhE wholeB;simp_all;done)
 ·
  refine hS.regS [0,0,0] [1] (sg [(9,vb ((k:Int)==2))] [] fun ac wd hS=>?_);refine hS.condC ((k:Int)==2) (fun hb3o hb3=>?_) (fun hb3o hb3=>?_)
  ·
   refine wp_skip ?_;refine zpt ?_;refine hS.condC ((k:Int)==2) (fun hb4o hb4=>?_) (fun hb4o hb4=>?_)
   ·
    refine hS.regS [0] [] (sg [(4,vi 0)] [] fun ac wd hS=>?_);refine wp_ret ?_;refine zpc ?_;refine zpr ?_;refine St.retC 0 hS (vi 0) [] tv fun hw=>?_;refine⟨retd (vint ?_),hw.fr0⟩
    all_goals (unfold vwhE wholeB;simp_all;done)
   ·
    refine wp_skip ?_;refine zpb ?_;refine zpt ?_;refine hS.regS [0] [] (sg [(4,vi 2)] [] fun ac wd hS=>?_);refine wp_ret ?_;refine St.retC 0 hS (vi 2) [] tv fun hw=>?_;refine⟨retd (vint ?_),hw.fr0⟩
    all_goals (unfold vwhE wholeB;simp_all;done)
  ·
   refine hS.regS [0,0,0] [1] (sg [(9,vb ((k:Int)==4))] [] fun ac wd hS=>?_);refine hS.condC ((k:Int)==4) (fun hb5o hb5=>?_) (fun hb5o hb5=>?_)
   ·
    refine wp_skip ?_;refine zpt ?_;refine hS.condC ((k:Int)==4) (fun hb6o hb6=>?_) (fun hb6o hb6=>?_)
    ·
     refine hS.regS [0] [] (sg [(4,vi 0)] [] fun ac wd hS=>?_);refine wp_ret ?_;refine zpc ?_;refine zpr ?_;refine St.retC 0 hS (vi 0) [] tv fun hw=>?_;refine⟨retd (vint ?_),hw.fr0⟩
     all_goals (unfold vwhE wholeB;simp_all;done)
    ·
     refine wp_skip ?_;refine zpb ?_;refine zpt ?_;refine hS.regS [0] [] (sg [(4,vi 2)] [] fun ac wd hS=>?_);refine wp_ret ?_;refine St.retC 0 hS (vi 2) [] tv fun hw=>?_;refine⟨retd (vint ?_),hw.fr0⟩
     all_goals (unfold vwhE wholeB;simp_all;done)
   ·
    refine hS.regC [0,0,0] [] (sg [(9,vb ((k:Int)==8))] [] fun ac wd hS=>?_);refine zpt ?_;refine hS.condC ((k:Int)==8) (fun hb7o hb7=>?_) (fun hb7o hb7=>?_)
    ·
     refine hS.regS [0] [] (sg [(4,vi 0)] [] fun ac wd hS=>?_);refine wp_ret ?_;refine zpc ?_;refine zpr ?_;refine St.retC 0 hS (vi 0) [] tv fun hw=>?_;refine⟨retd (vint ?_),hw.fr0⟩
     all_goals (unfold vwhE wholeB;simp_all;done)
    ·
     refine wp_skip ?_;refine zpb ?_;refine zpt ?_;refine hS.regS [0] [] (sg [(4,vi 2)] [] fun ac wd hS=>?_);refine wp_ret ?_;refine St.retC 0 hS (vi 2) [] tv fun hw=>?_;refine⟨retd (vint ?_),hw.fr0⟩
     all_goals (unfold vwhE wholeB;simp_all;done)
theorem vw_Of (b:Nat)(F:Nat→Prop)(m:AM)(a:Int)(n:Int)(w:World)(hr:(arR b F m).R w)(ht:thr m a n=true):
    Calls Tryz.prog 104 #[pt b 0,vi a,vi n] w fun e w'=>e=.returned (.tuple #[.agg #[pt b 0,vi a,vi n],vi 0])∧Fr w w' no no:=by
 refine enter (args:=[pt b 0,vi a,vi n]) (D:=no) (A:=[]) Tryz.func104 rfl 25 rfl [] (WS.startL trivial) fun ac hS=>?_;refine hS.regS [0,0] [0,1,2] fun ν1=>seg [(6,pt (ν1 0) 0)] [(0,some ((ν1 0),.cells [pnil,vi 0,vi 0] 49))] [] tv fun ac wd hS=>?_;refine wp_seq ?_;refine zwq ?_;refine hS.opsC 3 [0,0,0] [0,1,2,6] (sg [(11,pt b 0),(12,vi a),(13,vi n)] [(0,none)] fun ac wd hS=>?_);refine hS.call0 52 #[pt b 0,vi a,vi n] 14 (ar_Bytes b F m a n _ (Res.keep hr hS.mem.fr)) fun ac wd hS=>?_;refine hS.opsC 5 [0,0,0,0,0] [0,1,2,6] (sg [(9,vi (chkE m a n))] [(0,none)] fun ac wd hS=>?_);refine zlq ?_;refine hS.regS [0,0] [0,1,2,6,9] (sg [(18,vb (((chkE m a n):Int)!=0))] [(0,none)] fun ac wd hS=>?_);refine hS.condK (((chkE m a n):Int)!=0) false (by rw [chk_thr ht];rfl) ?_
 show Code.wp _ _ _ _ _
 refine wp_skip ?_;refine zpt ?_;refine hS.regS [0,0,0,0,0,0] [6] fun _=>seg [(7,vi 0)] [(0,some ((ν1 0),.cells [pt b 0,vi a,vi n] 49))] [.e (ν1 0),.e (ν1 0),.e (ν1 0)] tv fun ac wd hS=>?_;refine wp_ret ?_;refine St.retC 0 hS (.tuple #[.agg #[pt b 0,vi a,vi n],vi 0]) [.e (ν1 0),.e (ν1 0),.e (ν1 0)] tv fun hw=>?_;refine⟨retd rfl,hw.fr0⟩
theorem vw_Store (b:Nat)(F:Nat→Prop)(m:AM)(o:Int)(z:Int)(a:Int)(k:Int)(v:Int)(w:World)(hr:(arR b F m).R w)(ho:0≤o∧0≤z∧o+z≤4294967296):
    Calls Tryz.prog 58 #[.agg #[pt b 0,vi o,vi z],vi a,vi k,vu v] w fun e w'=>∃(F':Nat→Prop),e=.returned (vi (vstE m o z a k))∧(arR b F' (vstM m o z a k v)).R w'∧Fr w w' F F':=by
 refine enter (args:=[.agg #[pt b 0,vi o,vi z],vi a,vi k,vu v]) (D:=F) (A:=[arR b F m]) Tryz.func58 rfl 33 rfl [] (WS.startA (r:=arR b F m) hr trivial trivial) fun ac hS=>?_;refine hS.regS [0,0] [1,2,3] fun ν1=>seg [(4,pt (ν1 0) 0)] [(0,some ((ν1 0),.cells [pt b 0,vi o,vi z] 49))] [] tv fun ac wd hS=>?_;refine wp_seq ?_;refine zwq ?_;refine hS.opsC 2 [0,0] [1,2,3,4] fun _=>seg [(11,.agg #[pt b 0,vi o,vi z]),(12,vi k)] [(0,none)] [.e (ν1 0),.e (ν1 0),.e (ν1 0)] tv fun ac wd hS=>?_;refine hS.call0 108 #[.agg #[pt b 0,vi o,vi z],vi k] 13 (vw_whole b k o z _) fun ac wd hS=>?_;refine hS.opsC 1 [0] [1,2,3,4] (sg [(9,vi (vwhE k))] [(0,none)] fun ac wd hS=>?_);refine zlq ?_;refine hS.regS [0,0] [1,2,3,4,9] (sg [(15,vb (((vwhE k):Int)!=0))] [(0,none)] fun ac wd hS=>?_);refine hS.condC (((vwhE k):Int)!=0) (fun hb1o hb1=>?_) (fun hb1o hb1=>?_)
 ·
  have hv1:=hb1;refine hS.regS [0,0] [] (sg [(8,vi (vwhE k))] [] fun ac wd hS=>?_);refine wp_ret ?_;refine zpr ?_;refine St.retC 0 hS (vi (vwhE k)) [] tv fun hw=>?_;refine⟨F,retd (vint ?_),(res_eq (r:=arR b F m) (by first|rw [←vst_d hv1]|rw [←vst_e hcn]|rw [vst_f hv0 hc0]) (hw.res 0)),hw.frA⟩
  all_goals (first|exact vst_a hv1|exact vst_b hv0 hcn|exact vst_c hv0 hc0)
 ·
  have hv0:=hb1;refine wp_skip ?_;refine zpt ?_;refine wp_seq ?_;refine zwq ?_;refine hS.opsC 3 [0,0,0] [1,2,3,4] fun _=>seg [(17,.agg #[pt b 0,vi o,vi z]),(18,vi a),(19,vi k)] [(0,none)] [.e (ν1 0),.e (ν1 0),.e (ν1 0)] tv fun ac wd hS=>?_;refine hS.call0 109 #[.agg #[pt b 0,vi o,vi z],vi a,vi k] 20 (vw_check b a k o z _ (by first|assumption|omega|(simp_all;done)|(simp_all;omega))) fun ac wd hS=>?_;refine hS.opsC 1 [0] [1,2,3,4] (sg [(10,vi (vchE z a k))] [(0,none)] fun ac wd hS=>?_);refine zlq ?_;refine hS.regS [0,0] [1,2,3,4,10] (sg [(22,vb (((vchE z a k):Int)!=0))] [(0,none)] fun ac wd hS=>?_);refine hS.condC (((vchE z a k):Int)!=0) (fun hb2o hb2=>?_) (fun hb2o hb2=>?_)
  ·
   have hcn:=hb2;refine hS.regS [0,0] [] (sg [(8,vi (vchE z a k))] [] fun ac wd hS=>?_);refine wp_ret ?_;refine zpr ?_;refine St.retC 0 hS (vi (vchE z a k)) [] tv fun hw=>?_;refine⟨F,retd (vint ?_),(res_eq (r:=arR b F m) (by first|rw [←vst_d hv1]|rw [←vst_e hcn]|rw [vst_f hv0 hc0]) (hw.res 0)),hw.frA⟩
   all_goals (first|exact vst_a hv1|exact vst_b hv0 hcn|exact vst_c hv0 hc0)
  ·
   have hc0:=hb2;obtain⟨hc1,hc2,hc3,hc4⟩:=vch_in hc0;refine wp_skip ?_;refine zpt ?_;refine zwq ?_;refine hS.opsC 8 [0,0,0,0,0,20,0,0] [] fun _=>seg [(25,pt b 0),(29,vi (o+a)),(30,vi k),(31,vu v)] [] [.p (fit .i64 (o+a)),.e (ν1 0),.e (ν1 0)] ⟨zf6 (by omega),tv⟩ fun ac wd hS=>?_;refine hS.callC 32 #[pt b 0,vi (o+a),vi k,vu v] (ar_Store b F m (o+a) k v _ (hS.mem.res 0)) ?_;rintro _ wd ⟨F3,rfl,hA,hF⟩;refine⟨vi (stE m (o+a) k),rfl,?_⟩;replace hS:=hS.sA 0 rfl hA hF 32 (vi (stE m (o+a) k));clear hF;refine hS.opsC 1 [0] [] (sg [(8,vi (stE m (o+a) k))] [] fun ac wd hS=>?_);refine zlq ?_;refine wp_ret ?_;refine St.retC 0 hS (vi (stE m (o+a) k)) [] tv fun hw=>?_;refine⟨F3,retd (vint ?_),(res_eq (r:=arR b F3 (stM m (o+a) k v)) (by first|rw [←vst_d hv1]|rw [←vst_e hcn]|rw [vst_f hv0 hc0]) (hw.res 0)),hw.frA⟩
   all_goals (first|exact vst_a hv1|exact vst_b hv0 hcn|exact vst_c hv0 hc0)
theorem vw_Load (b:Nat)(F:Nat→Prop)(m:AM)(o:Int)(z:Int)(a:Int)(k:Int)(w:World)(hr:(arR b F m).R w)(ho:0≤o∧0≤z∧o+z≤4294967296):
    Calls Tryz.prog 74 #[.agg #[pt b 0,vi o,vi z],vi a,vi k] w fun e w'=>e=.returned (.tuple #[vu (vldV m o z a k),vi (vldE m o z a k)])∧Fr w w' no no:=by
 refine enter (args:=[.agg #[pt b 0,vi o,vi z],vi a,vi k]) (D:=no) (A:=[]) Tryz.func74 rfl 33 rfl [] (WS.startL trivial) fun ac hS=>?_;refine hS.regS [0,0,0] [1,2] fun ν1=>seg [(3,pt (ν1 0) 0)] [(0,some ((ν1 0),.cells [pt b 0,vi o,vi z] 49))] [] tv fun ac wd hS=>?_;refine wp_seq ?_;refine zwq ?_;refine hS.opsC 2 [0,0] [1,2,3] fun _=>seg [(10,.agg #[pt b 0,vi o,vi z]),(11,vi k)] [(0,none)] [.e (ν1 0),.e (ν1 0),.e (ν1 0)] tv fun ac wd hS=>?_;refine hS.call0 108 #[.agg #[pt b 0,vi o,vi z],vi k] 12 (vw_whole b k o z _) fun ac wd hS=>?_;refine hS.opsC 1 [0] [1,2,3] (sg [(8,vi (vwhE k))] [(0,none)] fun ac wd hS=>?_);refine zlq ?_;refine hS.regS [0,0] [1,2,3,8] (sg [(14,vb (((vwhE k):Int)!=0))] [(0,none)] fun ac wd hS=>?_);refine hS.condC (((vwhE k):Int)!=0) (fun hb1o hb1=>?_) (fun hb1o hb1=>?_)
 ·
  have hv1:=hb1;refine hS.regS [0,0,0] [] (sg [(6,vu 0),(7,vi (vwhE k))] [] fun ac wd hS=>?_);refine wp_ret ?_;refine zpr ?_;refine St.retC 0 hS (.tuple #[vu 0,vi (vwhE k)]) [] tv fun hw=>?_;refine⟨retd (tuple2 (vint ?_) (vint ?_)),hw.fr0⟩
  all_goals (first|exact vld_a hv1|exact vld_b hv0 hcn|exact vld_c hv0 hc0|exact vld_d hv1|exact vld_e hcn|exact vld_f hv0 hc0)
 ·
  have hv0:=hb1;refine wp_skip ?_;refine zpt ?_;refine wp_seq ?_;refine zwq ?_;refine hS.opsC 3 [0,0,0] [1,2,3] fun _=>seg [(16,.agg #[pt b 0,vi o,vi z]),(17,vi a),(18,vi k)] [(0,none)] [.e (ν1 0),.e (ν1 0),.e (ν1 0)] tv fun ac wd hS=>?_;refine hS.call0 109 #[.agg #[pt b 0,vi o,vi z],vi a,vi k] 19 (vw_check b a k o z _ (by first|assumption|omega|(simp_all;done)|(simp_all;omega))) fun ac wd hS=>?_;refine hS.opsC 1 [0] [1,2,3] (sg [(9,vi (vchE z a k))] [(0,none)] fun ac wd hS=>?_);refine zlq ?_;refine hS.regS [0,0] [1,2,3,9] (sg [(21,vb (((vchE z a k):Int)!=0))] [(0,none)] fun ac wd hS=>?_);refine hS.condC (((vchE z a k):Int)!=0) (fun hb2o hb2=>?_) (fun hb2o hb2=>?_)
  ·
   have hcn:=hb2;refine hS.regS [0,0,0] [] (sg [(6,vu 0),(7,vi (vchE z a k))] [] fun ac wd hS=>?_);refine wp_ret ?_;refine zpr ?_;refine St.retC 0 hS (.tuple #[vu 0,vi (vchE z a k)]) [] tv fun hw=>?_;refine⟨retd (tuple2 (vint ?_) (vint ?_)),hw.fr0⟩
   all_goals (first|exact vld_a hv1|exact vld_b hv0 hcn|exact vld_c hv0 hc0|exact vld_d hv1|exact vld_e hcn|exact vld_f hv0 hc0)
  ·
   have hc0:=hb2;obtain⟨hc1,hc2,hc3,hc4⟩:=vch_in hc0;refine wp_skip ?_;refine zpt ?_;refine zwq ?_;refine hS.opsC 7 [0,0,0,0,0,20,0] [] fun _=>seg [(24,pt b 0),(28,vi (o+a)),(29,vi k)] [] [.p (fit .i64 (o+a)),.e (ν1 0),.e (ν1 0)] ⟨zf6 (by omega),tv⟩ fun ac wd hS=>?_;refine hS.call0 33 #[pt b 0,vi (o+a),vi k] 30 (ar_Load b F m (o+a) k _ (Res.keep hr hS.mem.fr)) fun ac wd hS=>?_;refine hS.opsC 4 [0,0,0,0] [] (sg [(6,vu (ldV m (o+a) k)),(7,vi (ldE m (o+a) k))] [] fun ac wd hS=>?_);refine zlq ?_;refine wp_ret ?_;refine St.retC 0 hS (.tuple #[vu (ldV m (o+a) k),vi (ldE m (o+a) k)]) [] tv fun hw=>?_;refine⟨retd (tuple2 (vint ?_) (vint ?_)),hw.fr0⟩
   all_goals (first|exact vld_a hv1|exact vld_b hv0 hcn|exact vld_c hv0 hc0|exact vld_d hv1|exact vld_e hcn|exact vld_f hv0 hc0)
theorem law04_awake (w:World)(hh0:HE.holds w 1 (.fn 0 64 dbT)):
    Calls Tryz.prog 143 #[] w fun e w'=>e=.returned (vb true)∧Fr w w' no no:=by
 refine enter (args:=[]) (D:=no) (A:=[]) Tryz.func143 rfl 61 rfl [(1,.fn 0 64 dbT)] (WS.startL ⟨⟨rfl,hh0⟩,trivial⟩) fun ac hS=>?_;refine hS.regS [0] [] (sg [] [(0,none)] fun ac wd hS=>?_);refine zwq ?_;refine hS.callC 14 #[vi 1] (ar_New 1 _) ?_;rintro _ wd ⟨b'1,F2,rfl,hN,hF⟩;refine⟨pt b'1 0,rfl,?_⟩;replace hS:=(hS.to (hS.mem.newA hN hF)).put (d:=10) (v:=pt b'1 0) (by decide);clear hF;refine hS.opsC 1 [0] [] (sg [(1,pt b'1 0)] [(0,none)] fun ac wd hS=>?_);refine zlq ?_;refine zwq ?_;refine hS.opsC 1 [0] [1] (sg [(11,pt b'1 0)] [(0,none)] fun ac wd hS=>?_);refine hS.callC 56 #[pt b'1 0,vi 0,vi 1] (ar_Commit b'1 F2 (AM.new 1) 0 1 _ (hS.mem.res 0)) ?_;rintro _ wd ⟨F3,rfl,hA,hF⟩;refine⟨vi (comE (AM.new 1) 0 1),rfl,?_⟩;replace hS:=hS.sA 0 rfl hA hF 12 (vi (comE (AM.new 1) 0 1));clear hF;refine hS.opsC 1 [0] [1] (sg [(2,vi (comE (AM.new 1) 0 1))] [(0,none)] fun ac wd hS=>?_);refine zlq ?_;refine zwq ?_;refine hS.opsC 1 [0] [1,2] (sg [(14,pt b'1 0)] [(0,none)] fun ac wd hS=>?_);refine hS.call0 104 #[pt b'1 0,vi 100,vi 8] 15 (vw_Of b'1 F3 (comM (AM.new 1) 0 1) 100 8 _ (hS.mem.res 0) (by decide+kernel)) fun ac wd hS=>?_;refine hS.opsC 6 [0,0,0,0,100,0] [1,2] fun ν6=>seg [(3,pt (ν6 0) 0),(4,vi 0)] [(0,none),(1,some ((ν6 0),.cells [pt b'1 0,vi 100,vi 8] 49))] [.e (ν6 0),.e (ν6 0),.e (ν6 0)] tv fun ac wd hS=>?_;refine zlq ?_;refine zwq ?_;refine hS.opsC 1 [100] [1,2,3,4] fun _=>seg [(18,.agg #[pt b'1 0,vi 100,vi 8])] zn2 [.e (ν6 0),.e (ν6 0),.e (ν6 0)] tv fun ac wd hS=>?_;refine hS.callC 58 #[.agg #[pt b'1 0,vi 100,vi 8],vi 0,vi 8,vu 1] (vw_Store b'1 F3 (comM (AM.new 1) 0 1) 100 8 0 8 1 _ (hS.mem.res 0) (by decide)) ?_;rintro _ wd ⟨F4,rfl,hA,hF⟩;refine⟨vi (vstE (comM (AM.new 1) 0 1) 100 8 0 8),rfl,?_⟩;replace hS:=hS.sA 0 rfl hA hF 19 (vi (vstE (comM (AM.new 1) 0 1) 100 8 0 8));clear hF;refine hS.opsC 1 [0] [1,2,3,4] (sg [(5,vi (vstE (comM (AM.new 1) 0 1) 100 8 0 8))] zn2 fun ac wd hS=>?_);refine zlq ?_;refine zwq ?_;refine hS.opsC 1 [0] [2,3,4,5] (sg [(21,pt b'1 0)] zn2 fun ac wd hS=>?_);refine hS.call0 33 #[pt b'1 0,vi 100,vi 1] 22 (ar_Load b'1 F4 (vstM (comM (AM.new 1) 0 1) 100 8 0 8 1) 100 1 _ (hS.mem.res 0)) fun ac wd hS=>?_;refine hS.opsC 5 [0,0,0,0,0] [2,3,4,5] (sg [(6,vu (ldV (vstM (comM (AM.new 1) 0 1) 100 8 0 8 1) 100 1)),(7,vi (ldE (vstM (comM (AM.new 1) 0 1) 100 8 0 8 1) 100 1))] zn2 fun ac wd hS=>?_);refine zlq ?_;refine zwq ?_;refine hS.opsC 1 [100] [2,3,4,5,6,7] fun _=>seg [(26,.agg #[pt b'1 0,vi 100,vi 8])] zn2 [.e (ν6 0),.e (ν6 0),.e (ν6 0)] tv fun ac wd hS=>?_;refine hS.call0 74 #[.agg #[pt b'1 0,vi 100,vi 8],vi 1,vi 8] 27 (vw_Load b'1 F4 (vstM (comM (AM.new 1) 0 1) 100 8 0 8 1) 100 8 1 8 _ (hS.mem.res 0) (by decide)) fun ac wd hS=>?_;refine hS.opsC 5 [0,0,0,0,0] [2,3,4,5,6,7] (sg [(9,vi (vldE (vstM (comM (AM.new 1) 0 1) 100 8 0 8 1) 100 8 1 8))] zn2 fun ac wd hS=>?_);refine zlq ?_;refine zwq ?_;refine hS.call0 152 #[] 30 (law03_Awake _ (hS.mem.get 0 1 (.fn 0 64 dbT))) fun ac wd hS=>?_;refine hS.opsC 25 [0,1,1,70,0,3,3,80,0,3,3,80,0,3,3,80,0,3,3,80,0,3,3,80,0] [3] fun _=>seg [(55,vb ((((((((comE (AM.new 1) 0 1):Int)==0)&&true)&&(((vstE (comM (AM.new 1) 0 1) 100 8 0 8):Int)==0))&&(((ldE (vstM (comM (AM.new 1) 0 1) 100 8 0 8 1) 100 1):Int)==0))&&(((ldV (vstM (comM (AM.new 1) 0 1) 100 8 0 8 1) 100 1):Int)==1))&&(((vldE (vstM (comM (AM.new 1) 0 1) 100 8 0 8 1) 100 8 1 8):Int)==3)))] zn2 [.t true,.t true,.t true] tv fun ac wd hS=>?_;have hg5o:((((((((comE (AM.new 1) 0 1):Int)==0)&&true)&&(((vstE (comM (AM.new 1) 0 1) 100 8 0 8):Int)==0))&&(((ldE (vstM (comM (AM.new 1) 0 1) 100 8 0 8 1) 100 1):Int)==0))&&(((ldV (vstM (comM (AM.new 1) 0 1) 100 8 0 8 1) 100 1):Int)==1))&&(((vldE (vstM (comM (AM.new 1) 0 1) 100 8 0 8 1) 100 8 1 8):Int)==3))=true:=by decide+kernel
 replace hS:=hS.fix 55 (vb true) (congrArg Value.bool hg5o);refine hS.opsC 2 [1,101] [55] fun _=>seg [(57,pt b'1 0)] [(0,none)] [.t true,.e (ν6 0),.t true] tv fun ac wd hS=>?_;refine hS.callG true 44 #[pt b'1 0] (ar_Cap b'1 F4 (vstM (comM (AM.new 1) 0 1) 100 8 0 8 1) _ (hS.mem.res 0)) ?_;rintro _ wd ⟨rfl,hF⟩;refine⟨vi (((vstM (comM (AM.new 1) 0 1) 100 8 0 8 1).cap:Nat):Int),rfl,?_⟩;replace hS:=hS.kp hF 58 (vi (((vstM (comM (AM.new 1) 0 1) 100 8 0 8 1).cap:Nat):Int));clear hF;refine hS.opsC 3 [1,70,0] [] fun _=>seg [(0,vb (((((vstM (comM (AM.new 1) 0 1) 100 8 0 8 1).cap:Nat):Int):Int)==1))] [(0,none)] [.t true,.t true] tv fun ac wd hS=>?_;refine zlq ?_;refine wp_ret ?_;refine St.retC 0 hS (vb (((((vstM (comM (AM.new 1) 0 1) 100 8 0 8 1).cap:Nat):Int):Int)==1)) [] tv fun hw=>?_;refine⟨retd (vbool ?_),hw.fr0⟩
 all_goals (first|rfl|decide+kernel)
section
variable {P:Program}{c:Cx}{n:Nat}{E:Env}{H:Heap}{A:List Res}{a:Act}{w:World}{o:Oper}
end
section
variable {P:Program}{c:Cx}{n:Nat}{E:Env}{H:Heap}{A:List Res}{a:Act}{w:World}{o:Oper}
theorem Cells8.one {q:Nat}{t:Int}{T:TypeId}(h:HE.holds w q (.cells [.int .u8 t] T))(ht:0≤t∧t≤255):Cells8 w q 0 1 (fun _=>u8 t):=by
  have h:w.heap[q]? =some (.cells #[.int .u8 t] T (0,0)):=h;intro j hj;obtain rfl:j=0:=by omega
  unfold World.cell?
  simp only [h]
  rw [u8_toNat ht];rfl
end
abbrev zyY:ByteArray:=bs (fun _=>u8 (1+4*0)) 1
abbrev zyZ:ByteArray:=bs (fun _=>u8 0) 1
end Go.Proofs.YtojjkjedcafpeaaGreatDoor.K
