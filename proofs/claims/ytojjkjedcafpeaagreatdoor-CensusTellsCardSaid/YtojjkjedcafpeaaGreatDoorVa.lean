import Derived.Test.YtojjkjedcafpeaaGreatDoorM5
import Derived.Test.YtojjkjedcafpeaaGreatDoorRa
import Derived.Lib.Repeat
namespace Go.Proofs.YtojjkjedcafpeaaGreatDoor.K
set_option linter.unusedSimpArgs false
set_option linter.unusedVariables false
def repS (s:ByteArray)(c:Nat):ByteArray:=⟨(Lib.repeatL s.data.toList c).toArray⟩
theorem repS_bs (x:UInt8)(c:Nat):repS (bs (fun _=>x) 1) c=bs (fun _=>x) c:=by
  unfold repS bs
  have h1:((List.range 1).map fun _=>x)=List.replicate 1 x:=rfl;have h2:((List.range c).map fun _=>x)=List.replicate c x:=by rw [List.map_const'];simp
  rw [h1,h2]
  show ByteArray.mk (Lib.repeatL (List.replicate 1 x) c).toArray=_
  rw [Lib.repeatL_replicate,Nat.mul_one]
abbrev Tg:=Int×Int
def pgsN (a:Int):Int:=((2^a.toNat:Nat):Int)
theorem pgsN_step {x a:Int}(h:x=pgsN a)(h0:0≤a):2*x=pgsN (a+1):=by
  subst h;unfold pgsN;rw [show(a+1).toNat=a.toNat+1 by omega,Nat.pow_succ,Int.natCast_mul,Int.mul_comm];rfl
theorem pgsN_bd {a:Int}(h:a≤10):1≤pgsN a∧pgsN a≤1024:=by
  unfold pgsN
  have h1:0<2^a.toNat:=Nat.pow_pos (by omega);have h2:2^a.toNat≤2^10:=Nat.pow_le_pow_right (by omega) (by omega);omega
def rgE (q:List Tg)(i:Int):Int:=if i<0∨(q.length:Int)≤i then 3 else 0
def rgV (q:List Tg)(i:Int):Tg:=if rgE q i=0 then gtD q i.toNat else(0,0)
def rrAt (q:List Tg):Nat→Int
  |0=>if(gtD q 0).1=1 then -1 else 0
  |k+1=>if(gtD q (k+1)).1=1 then rrAt q k else((k+1:Nat):Int)
def rrI (q:List Tg)(x:Int):Int:=if x<0 then -1 else rrAt q x.toNat
def rrBad (q:List Tg)(i:Int):Bool:=decide (rrI q i<0)|| !(decide (2≤(gtD q (rrI q i).toNat).1)&&decide (i-rrI q i<pgsN (gtD q (rrI q i).toNat).2))
def rrE (q:List Tg)(i:Int):Int:=if rgE q i=0 then(if rrBad q i then 8 else 0)else rgE q i
def rrV (q:List Tg)(i:Int):Int:=if rrE q i=0 then rrI q i else 0
def rrT (q:List Tg)(i:Int):Tg:=if rrE q i=0 then gtD q (rrI q i).toNat else(0,0)
theorem rg_1 {q:List Tg}{i:Int}(h:i<0∨(q.length:Int)≤i):(0,0)=rgV q i∧3=rgE q i:=by
  have e:rgE q i=3:=by unfold rgE;rw [if_pos h]
  unfold rgV;rw [e];exact⟨rfl,rfl⟩
theorem rg_2 {q:List Tg}{i:Int}(h:¬(i<0∨(q.length:Int)≤i)):gtD q i.toNat=rgV q i∧0=rgE q i:=by
  have e:rgE q i=0:=by unfold rgE;rw [if_neg h]
  unfold rgV;rw [e];exact⟨rfl,rfl⟩
theorem rgE_in {q:List Tg}{i:Int}(h:rgE q i=0):0≤i∧i<(q.length:Int):=by
  unfold rgE at h;split at h<;>omega
theorem rr_1 {q:List Tg}{i:Int}(h:rgE q i≠0):0=rrV q i∧(0,0)=rrT q i∧rgE q i=rrE q i:=by
  have e:rrE q i=rgE q i:=by unfold rrE;rw [if_neg h]
  have e2:rrE q i≠0:=by rw [e];exact h
  unfold rrV rrT;rw [if_neg e2,if_neg e2];exact⟨rfl,rfl,e.symm⟩
theorem rr_8 {q:List Tg}{i:Int}(h:rgE q i=0)(hb:rrBad q i=true):0=rrV q i∧(0,0)=rrT q i∧8=rrE q i:=by
  have e:rrE q i=8:=by unfold rrE;rw [if_pos h,hb];rfl
  unfold rrV rrT;rw [e];exact⟨rfl,rfl,rfl⟩
theorem rr_0 {q:List Tg}{i:Int}(h:rgE q i=0)(hb:rrBad q i=false):rrI q i=rrV q i∧gtD q (rrI q i).toNat=rrT q i∧0=rrE q i:=by
  have e:rrE q i=0:=by unfold rrE;rw [if_pos h,hb];rfl
  unfold rrV rrT;rw [e];exact⟨rfl,rfl,rfl⟩
theorem rr_2 {q:List Tg}{i x:Int}(h:rgE q i=0)(h1:rrI q i=rrI q x)(hx:x<0):0=rrV q i∧(0,0)=rrT q i∧8=rrE q i:=
  rr_8 h (by unfold rrBad;rw [h1,show rrI q x= -1 by unfold rrI;rw [if_pos hx]];rfl)
theorem rr_3 {q:List Tg}{i x:Int}(h:rgE q i=0)(h1:rrI q i=x)(hx:0≤x)(hb:(decide (2≤(gtD q x.toNat).1)&&decide (i-x<pgsN (gtD q x.toNat).2))=false):0=rrV q i∧(0,0)=rrT q i∧8=rrE q i:=
  rr_8 h (by unfold rrBad;rw [h1,hb];simp)
theorem rr_4 {q:List Tg}{i x:Int}(h:rgE q i=0)(h1:rrI q i=x)(hx:0≤x)(hb:(decide (2≤(gtD q x.toNat).1)&&decide (i-x<pgsN (gtD q x.toNat).2))=true):x=rrV q i∧gtD q x.toNat=rrT q i∧0=rrE q i:=by
  have:=rr_0 h (by unfold rrBad;rw [h1,hb,decide_eq_false (by omega)];rfl);rw [h1]at this;exact this
def rlBad (a s:Int):Bool:=decide (a<0)||decide (10<a)||s==1||decide (3<s)
def rlO (s:Int):Tg:=if s=0 then(0,0)else(1,0)
def rlF (a s:Int):Tg:=if s=0 then(0,0)else(s,a)
def layL (q:List Tg)(i n:Int)(f o:Tg):List Tg:=(List.range q.length).map fun(j:Nat)=>if i≤(j:Int)∧(j:Int)<i+n then(if(j:Int)=i then f else o)else gtD q j
def rlE (q:List Tg)(i a s:Int):Int:=if rlBad a s then 2 else if i<0∨(q.length:Int)<pgsN a∨(q.length:Int)-pgsN a<i then 3 else 0
def rlQ (q:List Tg)(i a s:Int):List Tg:=if rlE q i a s=0 then layL q i (pgsN a) (rlF a s) (rlO s)else q
theorem layL_len (q:List Tg)(i n:Int)(f o:Tg):(layL q i n f o).length=q.length:=by unfold layL;simp
theorem layL_at (q:List Tg)(i n:Int)(f o:Tg){j:Nat}(h:j<q.length):gtD (layL q i n f o) j=if i≤(j:Int)∧(j:Int)<i+n then(if(j:Int)=i then f else o)else gtD q j:=by
  unfold layL
  conv=>lhs;unfold gtD
  rw [List.getD_eq_getElem?_getD,List.getElem?_map,List.getElem?_range h];rfl
theorem list_gtD {α:Type}[Inhabited α] {a b:List α}(h:a.length=b.length)(e:∀j,j<a.length→gtD a j=gtD b j):a=b:=by
  refine List.ext_getElem h fun j h1 h2=>?_;rw [←gtD_lt h1,←gtD_lt h2];exact e j h1
theorem rl_1 {q:List Tg}{i a s:Int}(h:rlBad a s=true):q=rlQ q i a s∧2=rlE q i a s:=by
  have e:rlE q i a s=2:=by unfold rlE;rw [h];rfl
  unfold rlQ;rw [e];exact⟨rfl,rfl⟩
theorem rl_2 {q:List Tg}{i a s:Int}(h:rlBad a s=false)(h2:i<0∨(q.length:Int)<pgsN a∨(q.length:Int)-pgsN a<i):q=rlQ q i a s∧3=rlE q i a s:=by
  have e:rlE q i a s=3:=by unfold rlE;rw [h,if_neg (by decide),if_pos h2]
  unfold rlQ;rw [e];exact⟨rfl,rfl⟩
theorem rl_3 {q:List Tg}{i a s:Int}(h:rlBad a s=false)(h2:¬(i<0∨(q.length:Int)<pgsN a∨(q.length:Int)-pgsN a<i)):layL q i (pgsN a) (rlF a s) (rlO s)=rlQ q i a s∧0=rlE q i a s:=by
  have e:rlE q i a s=0:=by unfold rlE;rw [h,if_neg (by decide),if_neg h2]
  unfold rlQ;rw [e];exact⟨rfl,rfl⟩
theorem rlBad_in {a s:Int}(h:rlBad a s=false):0≤a∧a≤10∧s≠1∧s≤3:=by
  unfold rlBad at h
  simp only [Bool.or_eq_false_iff,decide_eq_false_iff_not,beq_eq_false_iff_ne]at h
  omega
theorem rlQ_len (q:List Tg)(i a s:Int):(rlQ q i a s).length=q.length:=by unfold rlQ;split;exact layL_len _ _ _ _ _;rfl
theorem vld1_at {m:AM}{o z i:Int}(ht1:thr m (o+i) 1=true)(h0:0≤i)(h1:i<z):vldV m o z i 1=(((m.mem (o+i).toNat).toNat:Nat):Int)∧vldE m o z i 1=0:=by
  have hc:vchE z i 1=0:=(vch_yes (by omega)).symm;have hb:(m.mem (o+i).toNat).toNat<256:=UInt8.toNat_lt _
  have e:bytS m (o+i) 1=bs (stB (((m.mem (o+i).toNat).toNat:Nat):Int)) 1:=by
    unfold bytS;rw [if_pos ht1]
    refine bs_congr fun j hj=>?_;have hj:j<1:=hj;obtain rfl:j=0:=by omega
    apply UInt8.toNat_inj.1
    rw [stB_nat,Nat.add_zero];simp
  constructor
  · unfold vldV
    rw [show wholeB 1=true from rfl,if_pos rfl,if_pos hc]
    unfold ldV
    rw [show wholeB 1=true from rfl,ht1]
    show ldN (bytS m (o+i) 1) 1=_
    rw [e,ldN_num (by decide) 1 (by decide)]
    congr 1
    omega
  · unfold vldE
    rw [show wholeB 1=true from rfl,if_pos rfl,if_pos hc,ld_e2 rfl,chk_thr ht1]
theorem tgB_at {m:AM}{o z i:Int}(ht:thr m o z=true)(o0:0≤o)(h0:0≤i)(h1:i<z):tgB m o z i=(((m.mem (o+i).toNat).toNat:Nat):Int)∧tgE m o z i=0:=by
  have ht1:thr m (o+i) 1=true:=thr_sub ht (by omega) (by omega) (by omega);have hb:(m.mem (o+i).toNat).toNat<256:=UInt8.toNat_lt _;obtain⟨e1,e2⟩:=vld1_at (z:=z) ht1 h0 h1
  unfold tgB tgE
  rw [e1,e2,u8_in (by omega)];exact⟨rfl,rfl⟩
theorem tgB_out {m:AM}{o z i:Int}(h:i<0∨z≤i):tgB m o z i=0∧tgE m o z i=3:=by
  have hc:vchE z i 1≠0:=by rw [←vch_no (by omega)];decide
  unfold tgB tgE vldV vldE
  rw [show wholeB 1=true from rfl,if_pos rfl,if_neg hc,if_pos rfl,if_neg hc];exact⟨rfl,rfl⟩
structure TgR (m:AM)(o z:Int)(q:List Tg):Prop where
  len:z=(q.length:Int)
  there:thr m o z=true
  o0:0≤o
  tag:∀j:Nat,j<q.length→(((m.mem (o+(j:Int)).toNat).toNat:Nat):Int)=(gtD q j).1+4*(gtD q j).2
  rng:∀j:Nat,j<q.length→0≤(gtD q j).1∧(gtD q j).1≤3∧0≤(gtD q j).2∧(gtD q j).2≤10
section
variable {m:AM}{o z:Int}{q:List Tg}
theorem TgR.get (h:TgR m o z q)(i:Int):(tgS m o z i,tgO m o z i)=rgV q i∧tgE m o z i=rgE q i:=by
  have hl:=h.len
  by_cases hi:i<0∨(q.length:Int)≤i
  · obtain⟨h1,h2⟩:=rg_1 hi
    obtain⟨h3,h4⟩:=tgB_out (m:=m) (o:=o) (z:=z) (i:=i) (by omega)
    unfold tgS tgO;rw [h3,h4,←h1,←h2];exact⟨rfl,rfl⟩
  · obtain⟨h1,h2⟩:=rg_2 hi
    obtain⟨h3,h4⟩:=tgB_at h.there h.o0 (i:=i) (by omega) (by omega);obtain⟨j,rfl⟩:∃j:Nat,i=j:=⟨i.toNat,by omega⟩;have ht:=h.tag j (by omega);have hr:=h.rng j (by omega);rw [h4,←h1,←h2];refine⟨?_,rfl⟩
    unfold tgS tgO
    rw [h3,ht,Int.toNat_natCast];have e1:((gtD q j).1+4*(gtD q j).2)%4=(gtD q j).1:=by omega
    have e2:((gtD q j).1+4*(gtD q j).2)/4=(gtD q j).2:=by omega
    rw [e1,e2]
theorem TgR.at (h:TgR m o z q){j:Nat}(hj:j<q.length):tgS m o z (j:Int)=(gtD q j).1∧tgO m o z (j:Int)=(gtD q j).2:=by
  have h1:=(h.get (j:Int)).1;rw [←(rg_2 (q:=q) (i:=(j:Int)) (by omega)).1,Int.toNat_natCast]at h1;exact⟨congrArg Prod.fst h1,congrArg Prod.snd h1⟩
theorem TgR.back (h:TgR m o z q):∀k:Nat,k<q.length→rrAt q k=runAt m o z k∨(rrAt q k= -1∧runAt m o z k=0∧(gtD q 0).1=1)
  |0,hk=>by
    unfold rrAt runAt
    by_cases e:(gtD q 0).1=1
    · rw [if_pos e];exact .inr ⟨rfl,rfl,e⟩
    · rw [if_neg e];exact .inl rfl
  |k+1,hk=>by
    have ih:=h.back k (by omega);have h1:=(h.at hk).1
    unfold rrAt runAt
    rw [h1]
    by_cases e:(gtD q (k+1)).1=1
    · rw [if_pos e,if_pos e];exact ih
    · rw [if_neg e,if_neg e];exact .inl rfl
theorem TgR.run (h:TgR m o z q)(i:Int):runV m o z i=rrV q i∧(runS m o z i,runO m o z i)=rrT q i∧runE m o z i=rrE q i:=by
  have hg:=(h.get i).2;have hl:=h.len
  by_cases hi:rgE q i=0
  · have hti:tgE m o z i=0:=hg.trans hi
    obtain⟨hi0,hi1⟩:=rgE_in hi;have hbd:=runAt_bd m o z i.toNat;have hI:rrI q i=rrAt q i.toNat:=by unfold rrI;rw [if_neg (by omega)]
    have hat:=h.at (j:=(runAt m o z i.toNat).toNat) (by omega);rw [Int.toNat_of_nonneg hbd.1]at hat;have hrg:=h.rng (runAt m o z i.toNat).toNat (by omega)
    rcases h.back i.toNat (by omega)with e|⟨e1,e2,e3⟩
    · have hx:rrI q i=runAt m o z i.toNat:=hI.trans e
      have hp:IntKind.wrap .i64 (1*2^(min (Int.toNat (tgO m o z (runAt m o z i.toNat))) 64))=pgsN (tgO m o z (runAt m o z i.toNat)):=by
        rw [hat.2];have hb:=pgsN_bd hrg.2.2.2
        unfold pgsN at*
        rw [show min (Int.toNat (gtD q (runAt m o z i.toNat).toNat).2) 64=Int.toNat (gtD q (runAt m o z i.toNat).toNat).2 by omega,Int.one_mul];have e9:((2:Int)^Int.toNat (gtD q (runAt m o z i.toNat).toNat).2)=((2^Int.toNat (gtD q (runAt m o z i.toNat).toNat).2:Nat):Int):=by rw [Int.natCast_pow];rfl
        rw [e9];exact i64_in (by omega)
      cases hb:(decide (tgS m o z (runAt m o z i.toNat)<2)||decide (IntKind.wrap .i64 (1*2^(min (Int.toNat (tgO m o z (runAt m o z i.toNat))) 64))≤i-runAt m o z i.toNat))with
      |true=>
        obtain⟨r1,r2,r3,r4⟩:=run_2 hti rfl hb
        obtain⟨s1,s2,s3⟩:=rr_3 hi hx hbd.1 (by
          rw [hp,hat.1,hat.2]at hb
          simp only [Bool.or_eq_true,decide_eq_true_eq]at hb
          rw [Bool.and_eq_false_iff,decide_eq_false_iff_not,decide_eq_false_iff_not]
          omega)
        rw [←r1,←r2,←r3,←r4,←s1,←s2,←s3];exact⟨rfl,rfl,rfl⟩
      |false=>
        obtain⟨r1,r2,r3,r4⟩:=run_3 hti rfl hb
        obtain⟨s1,s2,s3⟩:=rr_4 hi hx hbd.1 (by
          rw [hp,hat.1,hat.2]at hb
          simp only [Bool.or_eq_false_iff,decide_eq_false_iff_not]at hb
          rw [Bool.and_eq_true,decide_eq_true_eq,decide_eq_true_eq]
          omega)
        rw [←r1,←r2,←r3,←r4,←s1,←s2,←s3,hat.1,hat.2];exact⟨rfl,rfl,rfl⟩
    · rw [e2]at hat
      have hat1:tgS m o z 0=1:=by rw [hat.1];exact e3
      obtain⟨r1,r2,r3,r4⟩:=run_2 hti e2 (by rw [hat1];rfl);obtain⟨s1,s2,s3⟩:=rr_2 (x:= -1) hi (by rw [hI,e1];rfl) (by omega);rw [←r1,←r2,←r3,←r4,←s1,←s2,←s3];exact⟨rfl,rfl,rfl⟩
  · have hne:tgE m o z i≠0:=by rw [hg];exact hi
    obtain⟨r1,r2,r3,r4⟩:=run_1 hne;obtain⟨s1,s2,s3⟩:=rr_1 hi;rw [←r1,←r2,←r3,←r4,←s1,←s2,←s3,hg];exact⟨rfl,rfl,rfl⟩
end
def tagS (a s:Int):ByteArray:=if s=0 then bs (fun _=>u8 0) 1++bs (fun _=>u8 0) (pgsN a-1).toNat else bs (fun _=>u8 (s+4*a)) 1++bs (fun _=>u8 1) (pgsN a-1).toNat
def tgLE (m:AM)(o z i a s:Int):Int:=if rlBad a s then 2 else vptE m o z i (tagS a s)
def tgLM (m:AM)(o z i a s:Int):AM:=if rlBad a s then m else vptM m o z i (tagS a s)
theorem tl_1 {m:AM}{o z i a s:Int}(h:rlBad a s=true):2=tgLE m o z i a s∧m=tgLM m o z i a s:=by unfold tgLE tgLM;rw [h];exact⟨rfl,rfl⟩
theorem tl_2 {m:AM}{o z i a s:Int}(h:rlBad a s=false):vptE m o z i (tagS a s)=tgLE m o z i a s∧vptM m o z i (tagS a s)=tgLM m o z i a s:=by unfold tgLE tgLM;rw [h];exact⟨rfl,rfl⟩
theorem tagS_size {a s:Int}(h:a≤10):(((tagS a s).size:Nat):Int)=pgsN a:=by
  have:=pgsN_bd h
  unfold tagS
  split<;>rw [ByteArray.size_append,bs_size,bs_size]<;>omega
theorem tagS_at {a s:Int}{x:Nat}(h:(x:Int)<pgsN a):sb (tagS a s) x=if x=0 then u8 ((rlF a s).1+4*(rlF a s).2)else u8 ((rlO s).1+4*(rlO s).2):=by
  have key:∀u v:UInt8,sb (bs (fun _=>u) 1++bs (fun _=>v) (pgsN a-1).toNat) x=if x=0 then u else v:=fun u v=>by
    rw [sb_append,bs_size]
    by_cases e:x=0
    · subst e;rw [if_pos (by omega),if_pos rfl,sb_bs (by omega)]
    · rw [if_neg (by omega),if_neg e,sb_bs (by omega)]
  unfold tagS rlF rlO
  by_cases e:s=0
  · rw [if_pos e,if_pos e,if_pos e,key];rfl
  · rw [if_neg e,if_neg e,if_neg e,key];rfl
theorem pgsN_shl (a:Int):(1*(2^Int.toNat a):Int)=pgsN a:=by unfold pgsN;rw [Int.one_mul,Int.natCast_pow];rfl
theorem pgsN_sh {a:Int}(h:a≤10):(0:Int)≤1∧1*2^Int.toNat a≤(9223372036854775807:Int):=by
  have:=pgsN_bd h;rw [pgsN_shl];omega
theorem tagS_0 {a s:Int}(h:s=0):bs (fun _=>u8 0) 1++repS zyZ (Int.toNat (1*(2^Int.toNat a)-1))=tagS a s:=by
  unfold tagS;rw [if_pos h,repS_bs,pgsN_shl]
theorem tagS_1 {a s:Int}(h:s≠0):bs (fun _=>u8 (s+4*a)) 1++repS zyY (Int.toNat (1*(2^Int.toNat a)-1))=tagS a s:=by
  unfold tagS;rw [if_neg h,repS_bs,pgsN_shl];rfl
theorem tagS_x {a s x y:Int}(h:(s=0∧x=0∧y=0)∨(s≠0∧x=s+4*a∧y=1+4*0)):bs (fun _=>u8 x) 1++repS (bs (fun _=>u8 y) 1) (Int.toNat (1*(2^Int.toNat a)-1))=tagS a s:=by
  rcases h with⟨h,rfl,rfl⟩|⟨h,rfl,rfl⟩
  · exact tagS_0 h
  · exact tagS_1 h
theorem lay13:tagS 1 3=bs (fun _=>u8 7) 1++bs (fun _=>u8 1) 1:=by kernel_rfl
theorem lay13M (m:AM)(o z i:Int):tgLM m o z i 1 3=vptM m o z i (bs (fun _=>u8 7) 1++bs (fun _=>u8 1) 1):=by
  rw [←(tl_2 (m:=m) (o:=o) (z:=z) (i:=i) (show rlBad 1 3=false by decide)).2,lay13]
theorem lay13E (m:AM)(o z i:Int):tgLE m o z i 1 3=vptE m o z i (bs (fun _=>u8 7) 1++bs (fun _=>u8 1) 1):=by
  rw [←(tl_2 (m:=m) (o:=o) (z:=z) (i:=i) (show rlBad 1 3=false by decide)).1,lay13]
theorem repS_size (x:UInt8)(c:Nat):(repS (bs (fun _=>x) 1) c).size=c:=by rw [repS_bs,bs_size]
theorem tgb_in {s r:Int}(h:0≤s∧s≤3)(h2:0≤r∧r≤10):IntKind.wrap .u8 (s+(IntKind.wrap .u8 (4*r)))=s+4*r:=by
  rw [u8_in (x:=4*r) (by omega),u8_in (by omega)]
section
variable {m:AM}{o z:Int}{q:List Tg}
theorem TgR.lay (h:TgR m o z q){i a s:Int}(hs:0≤s):tgLE m o z i a s=rlE q i a s∧TgR (tgLM m o z i a s) o z (rlQ q i a s):=by
  have hl:=h.len
  cases hb:rlBad a s with
  |true=>
    obtain⟨r1,r2⟩:=tl_1 (m:=m) (o:=o) (z:=z) (i:=i) hb;obtain⟨s1,s2⟩:=rl_1 (q:=q) (i:=i) hb;rw [←r1,←r2,←s1,←s2];exact⟨rfl,h⟩
  |false=>
    obtain⟨b1,b2,b3,b4⟩:=rlBad_in hb;obtain⟨r1,r2⟩:=tl_2 (m:=m) (o:=o) (z:=z) (i:=i) hb;have hz:=tagS_size (s:=s) b2;have hbd:=pgsN_bd b2;rw [←r1,←r2]
    by_cases hc:i<0∨(q.length:Int)<pgsN a∨(q.length:Int)-pgsN a<i
    · obtain⟨s1,s2⟩:=rl_2 (q:=q) (i:=i) hb hc
      have hv:vchE z i (((tagS a s).size:Nat):Int)≠0:=by rw [←vch_no (by omega)];decide
      obtain⟨p1,p2⟩:=vpt_1 (m:=m) (o:=o) hv;rw [←p1,←p2,←s1,←s2,vch_3 hv];exact⟨rfl,h⟩
    · obtain⟨s1,s2⟩:=rl_3 (q:=q) (i:=i) hb hc
      have hv:vchE z i (((tagS a s).size:Nat):Int)=0:=(vch_yes (by omega)).symm;obtain⟨p1,p2⟩:=vpt_2 (m:=m) (o:=o) hv;have ht:thr m (o+i) (((tagS a s).size:Nat):Int)=true:=thr_sub h.there (by omega) (by omega) (by omega);rw [←p1,←p2,←s1,←s2,chk_thr ht,←putM_yes ht];refine⟨rfl,?_⟩;have ho:=h.o0;refine⟨by rw [layL_len];exact hl,h.there,ho,fun j hj=>?_,fun j hj=>?_⟩
      · rw [layL_len]at hj
        rw [layL_at _ _ _ _ _ hj]
        show(((laidF m.mem (o+i).toNat (tagS a s).size (tagS a s) (o+(j:Int)).toNat).toNat:Nat):Int)=_
        unfold laidF
        by_cases e:i≤(j:Int)∧(j:Int)<i+pgsN a
        · rw [if_pos (by omega),if_pos e,tagS_at (by omega)]
          by_cases e2:(j:Int)=i
          · rw [if_pos (by omega),if_pos e2]
            refine u8_toNat ?_
            unfold rlF;split<;>(dsimp only;omega)
          · rw [if_neg (by omega),if_neg e2]
            refine u8_toNat ?_
            unfold rlO;split<;>(dsimp only;omega)
        · rw [if_neg (by omega),if_neg e];exact h.tag j hj
      · rw [layL_len]at hj
        rw [layL_at _ _ _ _ _ hj]
        split
        · split
          · unfold rlF;split<;>(dsimp only;omega)
          · unfold rlO;split<;>(dsimp only;omega)
        · exact h.rng j hj
theorem TgR.zero (hm:∀x,m.mem x=0)(ht:thr m o z=true)(o0:0≤o){n:Nat}(hl:z=(n:Int))(hq:q=List.replicate n (0,0)):TgR m o z q:=by
  subst hq
  have e:∀j,j<(List.replicate n ((0,0):Tg)).length→gtD (List.replicate n ((0,0):Tg)) j=(0,0):=fun j hj=>by
    rw [gtD_lt hj,List.getElem_replicate]
  refine⟨by rw [List.length_replicate];exact hl,ht,o0,fun j hj=>?_,fun j hj=>?_⟩
  · rw [e j hj,hm];rfl
  · rw [e j hj];decide
end
end Go.Proofs.YtojjkjedcafpeaaGreatDoor.K
