import Derived.Test.YtojjkjedcafpeaaGreatDoorM1
import Derived.Test.YtojjkjedcafpeaaGreatDoorProg
import Derived.RangeFuncBox
import Derived.RangeFuncLeaves
import Derived.RangeFuncNested
import Derived.RangeFuncCalls
import Derived.Shelf.Abstract
import Derived.WalkKit
import Derived.OwnWalkIn
import Derived.TacticsInMore
import Derived.LoopNIn
import Derived.LoopIn
import Derived.Maps.AppendAt
import Derived.Lib.SliceRun
import Derived.Lib.BufferWrite
import Derived.Laws.BytesString
import Derived.Lib.Builder
import Derived.Lib.UnsafeStr
set_option maxRecDepth 100000
set_option maxHeartbeats 2000000
namespace Go.Proofs.YtojjkjedcafpeaaGreatDoor.K
set_option linter.unusedSimpArgs false
def u64s (ws:Nat→Nat)(o x:Nat):Value:=.int .u64 (ws (x-o):Int)
theorem wrap_u64 (x:Int):IntKind.u64.wrap x=x%18446744073709551616:=by
  unfold IntKind.wrap
  simp [IntKind.signed,IntKind.bits]
theorem ofInt_nat64 (x:Nat):BitVec.ofInt 64 (x:Int)=BitVec.ofNat 64 x:=by simp
theorem bv_small {x:Nat}(h:x<2^64):(BitVec.ofNat 64 x).toNat=x:=by
  rw [BitVec.toNat_ofNat,Nat.mod_eq_of_lt h]
theorem wrapU_nat {x:Nat}(h:x<2^64):IntKind.u64.wrap (x:Int)=x:=by
  rw [wrap_u64];omega
theorem iand_u {a b:Nat}(ha:a<2^64)(hb:b<2^64):iand .u64 (a:Int) (b:Int)=((a&&&b:Nat):Int):=by
  unfold iand
  show IntKind.u64.wrap ((BitVec.ofInt 64 (a:Int)&&&BitVec.ofInt 64 (b:Int)).toNat:Int)=_
  rw [ofInt_nat64,ofInt_nat64,BitVec.toNat_and,bv_small ha,bv_small hb];have:a&&&b≤a:=Nat.and_le_left;exact wrapU_nat (by omega)
theorem ior_u {a b:Nat}(ha:a<2^64)(hb:b<2^64):ior .u64 (a:Int) (b:Int)=((a|||b:Nat):Int):=by
  unfold ior
  show IntKind.u64.wrap ((BitVec.ofInt 64 (a:Int)|||BitVec.ofInt 64 (b:Int)).toNat:Int)=_
  rw [ofInt_nat64,ofInt_nat64,BitVec.toNat_or,bv_small ha,bv_small hb];exact wrapU_nat (Nat.or_lt_two_pow ha hb)
def without (a m:Nat):Nat:=(BitVec.ofNat 64 a&&& ~~~(BitVec.ofNat 64 m)).toNat
theorem without_lt (a m:Nat):without a m<2^64:=(BitVec.ofNat 64 a&&& ~~~(BitVec.ofNat 64 m)).isLt
theorem without_bit {a m i:Nat}(h:i<64):(without a m).testBit i=(a.testBit i&& !m.testBit i):=by
  unfold without
  simp only [BitVec.testBit_toNat,BitVec.getLsbD_and,BitVec.getLsbD_not,BitVec.getLsbD_ofNat]
  simp [h]
theorem iandNot_u (a b:Nat):iandNot .u64 (a:Int) (b:Int)=((without a b:Nat):Int):=by
  unfold iandNot
  show IntKind.u64.wrap ((BitVec.ofInt 64 (a:Int)&&& ~~~(BitVec.ofInt 64 (b:Int))).toNat:Int)=_
  rw [ofInt_nat64,ofInt_nat64];exact wrapU_nat (without_lt a b)
def flip (a:Nat):Nat:=2^64-1-a
theorem flip_lt (a:Nat):flip a<2^64:=by unfold flip;omega
theorem flip_bit {a i:Nat}(ha:a<2^64)(h:i<64):(flip a).testBit i= !a.testBit i:=by
  unfold flip
  rw [show 2^64-1-a=2^64-(a+1) by omega,Nat.testBit_two_pow_sub_succ ha]
  simp [h]
theorem ixor_ones {a:Nat}(ha:a<2^64):ixor .u64 18446744073709551615 (a:Int)=((flip a:Nat):Int):=by
  unfold ixor
  show IntKind.u64.wrap ((BitVec.ofInt 64 ((18446744073709551615:Nat):Int)^^^BitVec.ofInt 64 (a:Int)).toNat:Int)=_
  rw [ofInt_nat64,ofInt_nat64,BitVec.toNat_xor,bv_small ha,bv_small (by decide)]
  have e:18446744073709551615^^^a=flip a:=by
    apply Nat.eq_of_testBit_eq
    intro i;rw [Nat.testBit_xor]
    by_cases h:i<64
    · rw [flip_bit ha h,show(18446744073709551615:Nat)=2^64-1 from rfl,Nat.testBit_two_pow_sub_one]
      simp [h]
    · have h1:a.testBit i=false:=Nat.testBit_lt_two_pow (Nat.lt_of_lt_of_le ha (Nat.pow_le_pow_right (by omega) (by omega)))
      have h2:(flip a).testBit i=false:=Nat.testBit_lt_two_pow (Nat.lt_of_lt_of_le (flip_lt a) (Nat.pow_le_pow_right (by omega) (by omega)));rw [h1,h2,show(18446744073709551615:Nat)=2^64-1 from rfl,Nat.testBit_two_pow_sub_one]
      simp [h]
  rw [e];exact wrapU_nat (flip_lt a)
def mkM (r k:Nat):Nat:=(2^k-1)*2^r
theorem mkM_bit (r k i:Nat):(mkM r k).testBit i=(decide (r≤i)&&decide (i<r+k)):=by
  unfold mkM
  rw [←Nat.shiftLeft_eq,Nat.testBit_shiftLeft,Nat.testBit_two_pow_sub_one]
  by_cases h:r≤i
  · have:i-r<k↔i<r+k:=by omega
    simp [h,this]
  · simp [h]
theorem mkM_lt {r k:Nat}(h:r+k≤64):mkM r k<2^64:=by
  unfold mkM
  have h1:2^k*2^r≤2^64:=by rw [←Nat.pow_add];exact Nat.pow_le_pow_right (by omega) (by omega)
  have h2:1≤2^k:=Nat.one_le_two_pow;have h3:1≤2^r:=Nat.one_le_two_pow;have h4:(2^k-1)*2^r=2^k*2^r-2^r:=by rw [Nat.sub_mul,Nat.one_mul]
  have h5:2^r≤2^k*2^r:=Nat.le_mul_of_pos_left _ (by omega);omega
theorem mask_eq {x k:Int}(hr0:0≤x)(hr:x<64)(hk:0≤k)(hk2:k+x≤64):
    IntKind.u64.wrap (IntKind.u64.wrap (IntKind.u64.wrap (1*2^(min (Int.toNat k) 64))-1)*2^(min (Int.toNat x) 64))=((mkM x.toNat k.toNat:Nat):Int):=by
  have e1:min (Int.toNat k) 64=k.toNat:=by omega
  have e2:min (Int.toNat x) 64=x.toNat:=by omega
  rw [e1,e2,←wrapU_nat (mkM_lt (r:=x.toNat) (k:=k.toNat) (by omega))]
  simp only [wrap_u64]
  have h2:1≤2^k.toNat:=Nat.one_le_two_pow
  have e3:((mkM x.toNat k.toNat:Nat):Int)=(2^k.toNat-1)*2^x.toNat:=by
    unfold mkM
    rw [Int.natCast_mul,Int.natCast_sub h2]
    push_cast
    rfl
  rw [e3,Int.mul_emod ((2:Int)^k.toNat-1),Int.mul_emod ((1*2^k.toNat%18446744073709551616-1)%18446744073709551616)]
  congr 2
  rw [Int.emod_emod_of_dvd _ (Int.dvd_refl _),Int.one_mul,Int.emod_sub_emod]
def setR (p:Nat→Bool)(f n:Nat)(b:Bool)(x:Nat):Bool:=if f≤x∧x<f+n then b else p x
theorem setR_zero (p:Nat→Bool)(f:Nat)(b:Bool):setR p f 0 b=p:=by
  funext x;unfold setR;rw [if_neg (by omega)]
theorem setR_setR (p:Nat→Bool)(f n m:Nat)(b:Bool):setR (setR p f n b) (f+n) m b=setR p f (n+m) b:=by
  funext x
  unfold setR
  by_cases h1:f+n≤x∧x<f+n+m
  · rw [if_pos h1,if_pos (by omega)]
  · rw [if_neg h1]
    by_cases h2:f≤x∧x<f+n
    · rw [if_pos h2,if_pos (by omega)]
    · rw [if_neg h2,if_neg (by omega)]
def tOp (b:Bool)(a m:Nat):Nat:=if b then a|||m else without a m
def putW (ws:Nat→Nat)(j v:Nat)(x:Nat):Nat:=if x=j then v else ws x
theorem tOp_bit {b:Bool}{a m i:Nat}(h:i<64):(tOp b a m).testBit i=if m.testBit i then b else a.testBit i:=by
  unfold tOp
  cases b
  · simp only [Bool.false_eq_true,if_false]
    rw [without_bit h]
    cases a.testBit i<;>cases m.testBit i<;>rfl
  · simp only [if_true]
    rw [Nat.testBit_or]
    cases a.testBit i<;>cases m.testBit i<;>rfl
theorem tOp_lt {b:Bool}{a m:Nat}(ha:a<2^64)(hm:m<2^64):tOp b a m<2^64:=by
  unfold tOp
  cases b
  · exact without_lt a m
  · exact Nat.or_lt_two_pow ha hm
theorem Words.turn {ws:Nat→Nat}{nw n:Nat}{p:Nat→Bool}(h:Words ws nw n p){f k:Nat}(b:Bool)(hk:f%64+k≤64)(hn:f+k≤n):
    Words (putW ws (f/64) (tOp b (ws (f/64)) (mkM (f%64) k))) nw n (setR p f k b):=by
  refine⟨h.many,fun j hj i hi=>?_,fun j hj=>?_⟩
  · unfold putW
    by_cases e:j=f/64
    · subst e
      rw [if_pos rfl,tOp_bit hi,mkM_bit,h.bit _ hj i hi]
      unfold setR
      by_cases e2:f%64≤i∧i<f%64+k
      · rw [if_pos (show f≤64*(f/64)+i∧64*(f/64)+i<f+k by omega)]
        have:64*(f/64)+i<n:=by omega
        simp [e2,this]
      · rw [if_neg (show¬(f≤64*(f/64)+i∧64*(f/64)+i<f+k) by omega),if_neg (by simpa using fun x=>by omega)]
    · rw [if_neg e,h.bit j hj i hi]
      unfold setR
      rw [if_neg (by omega)]
  · unfold putW
    split
    · rename_i e
      subst e;exact tOp_lt (h.small _ hj) (mkM_lt hk)
    · exact h.small j hj
theorem u64s_put (ws:Nat→Nat)(j v:Nat):(fun x=>if x=j then Value.int .u64 (v:Int)else u64s ws 0 x)=u64s (putW ws j v) 0:=by
  funext x
  unfold u64s putW
  simp only [Nat.sub_zero]
  split<;>rfl
def nxtGo (p:Nat→Bool)(v:Bool):Nat→Nat→Nat
  |0,i=>i
  |f+1,i=>if p i==v then i else nxtGo p v f (i+1)
def nxt (p:Nat→Bool)(v:Bool)(n i:Nat):Nat:=nxtGo p v (n-i) i
theorem nxtGo_spec (p:Nat→Bool)(v:Bool):∀f i,i≤nxtGo p v f i∧nxtGo p v f i≤i+f∧(nxtGo p v f i<i+f→p (nxtGo p v f i)=v)∧∀x,i≤x→x<nxtGo p v f i→p x≠v:=by
  intro f
  induction f with
  |zero=>intro i;simp only [nxtGo];exact⟨by omega,by omega,by omega,fun x h1 h2=>by omega⟩
  |succ f ih=>
    intro i
    simp only [nxtGo]
    split
    · rename_i h
      exact⟨by omega,by omega,fun _=>by simpa using h,fun x h1 h2=>by omega⟩
    · rename_i h
      obtain⟨h1,h2,h3,h4⟩:=ih (i+1);refine⟨by omega,by omega,fun hh=>h3 (by omega),fun x hx hx2=>?_⟩
      by_cases e:x=i
      · subst e;simpa using h
      · exact h4 x (by omega) hx2
theorem nxt_ge (p:Nat→Bool)(v:Bool)(n i:Nat):i≤nxt p v n i:=(nxtGo_spec p v _ _).1
theorem nxt_le (p:Nat→Bool)(v:Bool){n i:Nat}(h:i≤n):nxt p v n i≤n:=by have:=(nxtGo_spec p v (n-i) i).2.1;unfold nxt;omega
theorem nxt_hit {p:Nat→Bool}{v:Bool}{n i:Nat}(h:nxt p v n i<n):p (nxt p v n i)=v:=by
  have h1:=nxt_ge p v n i;exact(nxtGo_spec p v (n-i) i).2.2.1 (by unfold nxt at h h1;omega)
theorem nxt_miss {p:Nat→Bool}{v:Bool}{n i x:Nat}(h1:i≤x)(h2:x<nxt p v n i):p x≠v:=(nxtGo_spec p v _ _).2.2.2 x h1 h2
theorem nxt_past {p:Nat→Bool}{v:Bool}{n i:Nat}(h:n≤i):nxt p v n i=i:=by unfold nxt;rw [show n-i=0 by omega];rfl
theorem nxt_is {p:Nat→Bool}{v:Bool}{n i x:Nat}(h1:i≤x)(h2:x<n)(h3:p x=v)(h4:∀y,i≤y→y<x→p y≠v):nxt p v n i=x:=by
  rcases Nat.lt_trichotomy (nxt p v n i) x with h|h|h
  · exact absurd (nxt_hit (by omega)) (h4 _ (nxt_ge p v n i) h)
  · exact h
  · exact absurd h3 (nxt_miss h1 h)
theorem nxt_none {p:Nat→Bool}{v:Bool}{n i:Nat}(h1:i≤n)(h4:∀y,i≤y→y<n→p y≠v):nxt p v n i=n:=by
  have h:=nxt_le p v h1
  rcases Nat.lt_or_ge (nxt p v n i) n with h2|h2
  · exact absurd (nxt_hit h2) (h4 _ (nxt_ge p v n i) h2)
  · omega
theorem nxt_skip {p:Nat→Bool}{v:Bool}{n i j:Nat}(h1:i≤j)(h2:j≤n)(h4:∀y,i≤y→y<j→p y≠v):nxt p v n i=nxt p v n j:=by
  have h:=nxt_le p v h2;have hg:=nxt_ge p v n j
  rcases Nat.lt_or_ge (nxt p v n j) n with h3|h3
  · refine nxt_is (by omega) h3 (nxt_hit h3) fun y hy hy2=>?_
    rcases Nat.lt_or_ge y j with h5|h5
    · exact h4 y hy h5
    · exact nxt_miss h5 hy2
  · rw [show nxt p v n j=n by omega]
    refine nxt_none (by omega) fun y hy hy2=>?_
    rcases Nat.lt_or_ge y j with h5|h5
    · exact h4 y hy h5
    · exact nxt_miss (n:=n) h5 (by omega)
theorem low_bit:∀x:Nat,0<x→∃t m,x=2^(t+1)*m+2^t
  |0,h=>absurd h (by omega)
  |x+1,_=>by
    rcases Nat.mod_two_eq_zero_or_one (x+1)with h|h
    · obtain⟨t,m,e⟩:=low_bit ((x+1)/2) (by omega)
      refine⟨t+1,m,?_⟩;have:x+1=2*((x+1)/2):=by omega
      rw [this,e,Nat.pow_succ 2 (t+1),Nat.pow_succ 2 t]
      generalize 2^t=q
      rw [Nat.mul_add,Nat.mul_assoc,Nat.mul_assoc,Nat.mul_assoc];have:q*2=2*q:=by omega
      rw [this]
      congr 1
      rw [Nat.mul_left_comm q 2 (2*m),Nat.mul_left_comm q 2 m]
    · exact⟨0,(x+1)/2,by omega⟩
theorem low_at {t m i:Nat} :(2^(t+1)*m+2^t).testBit i=if i<t+1 then decide (i=t)else m.testBit (i-(t+1)):=by
  rw [Nat.testBit_two_pow_mul_add m (Nat.pow_lt_pow_right (by omega) (by omega))]
  split
  · rw [Nat.testBit_two_pow];simp [eq_comm]
  · rfl
theorem low_lt {t m:Nat}(h:2^(t+1)*m+2^t<2^64):t<64:=by
  rcases Nat.lt_or_ge t 64 with h1|h1
  · exact h1
  · have:=Nat.pow_le_pow_right (n:=2) (by omega) h1;omega
theorem low_and {t m:Nat}(h:2^(t+1)*m+2^t<2^64):iand .u64 ((2^(t+1)*m+2^t:Nat):Int) (IntKind.u64.wrap (0-((2^(t+1)*m+2^t:Nat):Int)))=((2^t:Nat):Int):=by
  have hp:1≤2^t:=Nat.one_le_two_pow
  have e1:IntKind.u64.wrap (0-((2^(t+1)*m+2^t:Nat):Int))=((2^64-((2^(t+1)*m+(2^t-1))+1):Nat):Int):=by
    rw [wrap_u64]
    generalize 2^(t+1)*m=q at*
    omega
  rw [e1,iand_u h (by omega)]
  congr 1
  have ht:=low_lt h
  apply Nat.eq_of_testBit_eq
  intro i;rw [Nat.testBit_and,Nat.testBit_two_pow_sub_succ (by omega),low_at,Nat.testBit_two_pow_mul_add m (show 2^t-1<2^(t+1) by rw [Nat.pow_succ];omega),Nat.testBit_two_pow,Nat.testBit_two_pow_sub_one]
  by_cases h1:i<t+1
  · rw [if_pos h1,if_pos h1]
    by_cases h2:i=t
    · subst h2;simp;omega
    · have:¬t=i:=fun e=>h2 e.symm
      simp [h2,this]
  · rw [if_neg h1,if_neg h1]
    have:¬t=i:=by omega
    cases m.testBit (i-(t+1))<;>simp [this]
def dbL:List Int:=[0,1,56,2,57,49,28,3,61,58,42,50,38,29,17,4,62,47,59,36,45,43,51,22,53,39,33,30,24,18,12,5,63,55,48,27,60,41,37,16,46,35,44,21,52,32,23,11,54,26,40,15,34,20,31,10,25,14,19,9,13,8,7,6]
def dbT (x:Nat):Value:=.int .u8 (dbL.getD x 0)
theorem db_all:(List.range 64).all (fun t=>decide (0≤Int.fdiv (IntKind.u64.wrap (((2^t:Nat):Int)*285870213051353865)) (2^58))&&decide (Int.fdiv (IntKind.u64.wrap (((2^t:Nat):Int)*285870213051353865)) (2^58)<64)&&
    (dbL.getD (Int.toNat (Int.fdiv (IntKind.u64.wrap (((2^t:Nat):Int)*285870213051353865)) (2^58))) 0==(t:Int)))=true:=by decide+kernel
theorem db_at {t:Nat}(h:t<64):(0≤Int.fdiv (IntKind.u64.wrap (((2^t:Nat):Int)*285870213051353865)) (2^58)∧Int.fdiv (IntKind.u64.wrap (((2^t:Nat):Int)*285870213051353865)) (2^58)<64)∧
    dbL.getD (Int.toNat (Int.fdiv (IntKind.u64.wrap (((2^t:Nat):Int)*285870213051353865)) (2^58))) 0=(t:Int):=by
  have:=List.all_eq_true.1 db_all t (List.mem_range.2 h)
  simp only [Bool.and_eq_true,decide_eq_true_eq,beq_iff_eq]at this
  exact this
theorem shr_bit {a r i:Nat} :(a/2^r).testBit i=a.testBit (r+i):=by
  rw [←Nat.shiftRight_eq_div_pow,Nat.testBit_shiftRight]
theorem shr_u {a:Nat}{r:Int}(h0:0≤r)(h:r<64):Int.fdiv (a:Int) (2^(min (Int.toNat r) 64))=((a/2^r.toNat:Nat):Int):=by
  rw [show min (Int.toNat r) 64=r.toNat by omega,Int.fdiv_eq_ediv_of_nonneg _ (Int.le_of_lt (Int.pow_pos (by omega)))]
  push_cast
  rfl
def tz (x:Nat):Nat:=nxt (fun i=>x.testBit i) true 64 0
theorem tz_low {t m:Nat}(h:2^(t+1)*m+2^t<2^64):tz (2^(t+1)*m+2^t)=t:=by
  refine nxt_is (by omega) (low_lt h) ?_ fun y _ hy=>?_
  · show(2^(t+1)*m+2^t).testBit t=true
    rw [low_at,if_pos (by omega)];simp
  · show(2^(t+1)*m+2^t).testBit y≠true
    rw [low_at,if_pos (by omega)];simp;omega
theorem tz_spec {x:Nat}(h0:0<x)(h:x<2^64):tz x<64∧x.testBit (tz x)=true∧∀y,y<tz x→x.testBit y=false:=by
  obtain⟨t,m,rfl⟩:=low_bit x h0;rw [tz_low h];refine⟨low_lt h,?_,fun y hy=>?_⟩
  · rw [low_at,if_pos (by omega)];simp
  · rw [low_at,if_pos (by omega)];simp;omega
theorem db_facts {x:Nat}(h0:x<2^64)(h1:0<x):(0≤Int.fdiv (IntKind.wrap .u64 ((iand .u64 ((x:Nat):Int) (IntKind.wrap .u64 (0-((x:Nat):Int))))*285870213051353865)) (2^58)∧
    Int.fdiv (IntKind.wrap .u64 ((iand .u64 ((x:Nat):Int) (IntKind.wrap .u64 (0-((x:Nat):Int))))*285870213051353865)) (2^58)<64)∧
    IntKind.wrap .i64 (dbL.getD (0+Int.toNat (Int.fdiv (IntKind.wrap .u64 ((iand .u64 ((x:Nat):Int) (IntKind.wrap .u64 (0-((x:Nat):Int))))*285870213051353865)) (2^58))*1) 0)=((tz x:Nat):Int):=by
  obtain⟨t,m,rfl⟩:=low_bit x h1;have ht:=low_lt h0;obtain⟨hd1,hd2⟩:=db_at ht;rw [low_and h0,tz_low h0,Nat.zero_add,Nat.mul_one,hd2];exact⟨hd1,i64_in (by omega)⟩
def wv (v:Bool)(a:Nat):Nat:=if v then a else flip a
theorem wv_lt {v:Bool}{a:Nat}(h:a<2^64):wv v a<2^64:=by
  unfold wv;split
  · exact h
  · exact flip_lt a
section
variable {ws:Nat→Nat}{nw n:Nat}{p:Nat→Bool}
theorem Words.look (h:Words ws nw n p)(v:Bool){y:Nat}(hy:y<n):(wv v (ws (y/64))).testBit (y%64)=(p y==v):=by
  have hj:y/64<nw:=by rw [h.many];omega
  have hb:=h.bit (y/64) hj (y%64) (by omega);rw [show 64*(y/64)+y%64=y by omega]at hb
  unfold wv
  cases v
  · simp only [Bool.false_eq_true,if_false]
    rw [flip_bit (h.small _ hj) (by omega),hb];simp [hy]
  · simp only [if_true];rw [hb];simp [hy]
theorem Words.ahead (h:Words ws nw n p)(v:Bool){x y:Nat}(hxy:x≤y)(hy:y<n)(hw:y/64=x/64):(wv v (ws (x/64))/2^(x%64)).testBit (y-x)=(p y==v):=by
  rw [shr_bit,←h.look v hy,hw]
  congr 1
  omega
theorem Words.skip (h:Words ws nw n p)(v:Bool){x:Nat}(hx:x<n)(h0:wv v (ws (x/64))/2^(x%64)=0){y:Nat}(h1:x≤y)(h2:y<x+64-x%64)(hy:y<n):p y≠v:=by
  have:=h.ahead v h1 hy (by have h9:=hx;omega);rw [h0]at this;intro e;rw [e]at this
  simp at this
theorem Words.hit (h:Words ws nw n p)(v:Bool){x:Nat}(hx:x<n)(h0:wv v (ws (x/64))/2^(x%64)≠0):
    tz (wv v (ws (x/64))/2^(x%64))<64∧(x+tz (wv v (ws (x/64))/2^(x%64))<n→nxt p v n x=x+tz (wv v (ws (x/64))/2^(x%64)))∧
      (n≤x+tz (wv v (ws (x/64))/2^(x%64))→nxt p v n x=n):=by
  have hj:x/64<nw:=by rw [h.many];omega
  have hlt:wv v (ws (x/64))<2^64:=wv_lt (h.small _ hj);have hle:wv v (ws (x/64))/2^(x%64)<2^64:=Nat.lt_of_le_of_lt (Nat.div_le_self _ _) hlt;obtain⟨t1,t2,t3⟩:=tz_spec (Nat.pos_of_ne_zero h0) hle
  generalize ht:tz (wv v (ws (x/64))/2^(x%64))=t at*
  have hr:x%64+t<64:=by
    rw [shr_bit]at t2
    rcases Nat.lt_or_ge (x%64+t) 64 with h3|h3
    · exact h3
    · rw [Nat.testBit_lt_two_pow (Nat.lt_of_lt_of_le hlt (Nat.pow_le_pow_right (by omega) h3))]at t2
      cases t2
  have hmiss:∀y,x≤y→y<x+t→y<n→p y≠v:=by
    intro y h1 h2 h3 e;have:=h.ahead v h1 h3 (by omega);rw [t3 _ (by omega),e]at this
    simp at this
  refine⟨t1,fun hn=>?_,fun hn=>?_⟩
  · refine nxt_is (by omega) hn ?_ fun y h1 h2=>hmiss y h1 h2 (by omega)
    have:=h.ahead v (show x≤x+t by omega) hn (by omega);rw [show x+t-x=t by omega,t2]at this
    simpa using this.symm
  · exact nxt_none (by omega) fun y h1 h2=>hmiss y h1 (by omega) h2
end
def wth (n:Nat)(f k:Int):Bool:=decide (0≤f)&&decide (0≤k)&&decide (k≤(n:Int))&&decide (f≤(n:Int)-k)
def trn (p:Nat→Bool)(n:Nat)(f k:Int)(b:Bool):Nat→Bool:=if wth n f k then setR p f.toNat k.toNat b else p
def trnE (n:Nat)(f k:Int):Int:=if wth n f k then 0 else 3
def capN (x:Int):Nat:=(imax 0 (imin x 1048576)).toNat
theorem capN_le (x:Int):capN x≤1048576:=by unfold capN imax imin;split<;>split<;>omega
def at0 (f:Int):Nat:=(imax 0 f).toNat
def fst1 (p:Nat→Bool)(n:Nat)(f:Int)(v:Bool):Int:=if nxt p v n (at0 f)<n then(nxt p v n (at0 f):Int)else 0
def fst2 (p:Nat→Bool)(n:Nat)(f:Int)(v:Bool):Bool:=decide (nxt p v n (at0 f)<n)
def fst3 (p:Nat→Bool)(n:Nat)(f:Int)(v:Bool):Int:=if nxt p v n (at0 f)<n then(nxt p v n (at0 f):Int)else n
theorem fst_yes {p:Nat→Bool}{n:Nat}{f y:Int}{v:Bool}(h:(nxt p v n (at0 f):Int)=y)(h2:y<n):y=fst1 p n f v∧true=fst2 p n f v:=by
  unfold fst1 fst2
  rw [if_pos (by omega)];exact⟨h.symm,by simp;omega⟩
theorem fst_no {p:Nat→Bool}{n:Nat}{f:Int}{v:Bool}(h:n≤nxt p v n (at0 f)):0=fst1 p n f v∧false=fst2 p n f v:=by
  unfold fst1 fst2
  rw [if_neg (by omega)];exact⟨rfl,by simp;omega⟩
theorem fst3_eq (p:Nat→Bool)(n:Nat)(f:Int)(v:Bool):fst3 p n f v=if fst2 p n f v then fst1 p n f v else n:=by
  unfold fst1 fst2 fst3
  by_cases h:nxt p v n (at0 f)<n<;>simp [h]
theorem first_facts {ws:Nat→Nat}{nw n:Nat}{p:Nat→Bool}(h:Words ws nw n p){i:Int}(h0:0≤i)(h1:i<(n:Int))(v:Bool):
    (wv v (ws (Int.toNat (i/64)))/2^Int.toNat (i%64)<2^64)∧
    (((wv v (ws (Int.toNat (i/64)))/2^Int.toNat (i%64):Nat):Int)=0→nxt p v n (Int.toNat i)=nxt p v n (Int.toNat (i+(64-i%64)))∨(n≤Int.toNat (i+(64-i%64))∧n≤nxt p v n (Int.toNat i)))∧
    (¬((wv v (ws (Int.toNat (i/64)))/2^Int.toNat (i%64):Nat):Int)=0→tz (wv v (ws (Int.toNat (i/64)))/2^Int.toNat (i%64))<64∧(i+(tz (wv v (ws (Int.toNat (i/64)))/2^Int.toNat (i%64)):Int)<n→(nxt p v n (Int.toNat i):Int)=i+(tz (wv v (ws (Int.toNat (i/64)))/2^Int.toNat (i%64)):Int))∧
      ((n:Int)≤i+(tz (wv v (ws (Int.toNat (i/64)))/2^Int.toNat (i%64)):Int)→nxt p v n (Int.toNat i)=n)):=by
  obtain⟨x,rfl⟩:=Int.eq_ofNat_of_zero_le h0;have hx:x<n:=by omega
  rw [show Int.toNat ((x:Int)/64)=x/64 by omega,show Int.toNat ((x:Int)%64)=x%64 by omega,show Int.toNat (x:Int)=x by omega,show Int.toNat ((x:Int)+(64-(x:Int)%64))=x+64-x%64 by omega];have hj:x/64<nw:=by rw [h.many];omega
  refine⟨Nat.lt_of_le_of_lt (Nat.div_le_self _ _) (wv_lt (h.small _ hj)),fun e0=>?_,fun e0=>?_⟩
  · have e:wv v (ws (x/64))/2^(x%64)=0:=Int.ofNat.inj e0
    rcases Nat.lt_or_ge (x+64-x%64) n with h2|h2
    · exact .inl (nxt_skip (by omega) (by omega) fun y a b=>h.skip v hx e a b (by omega))
    · exact .inr ⟨h2,Nat.le_of_eq (nxt_none (by omega) fun y a b=>h.skip v hx e a (by omega) b).symm⟩
  · have e:wv v (ws (x/64))/2^(x%64)≠0:=fun e1=>e0 (by rw [e1];rfl)
    obtain⟨a,b,c⟩:=h.hit v hx e;refine⟨a,fun k=>?_,fun k=>c (by omega)⟩;rw [b (by omega)];omega
theorem pos_of_cast {x:Nat}(h:¬((x:Int)=0)):0<x:=by omega
theorem capN_eq (x:Int):imax 0 (imin x 1048576)=((capN x:Nat):Int):=by
  unfold capN imax imin;split<;>split<;>omega
theorem wth_facts {n:Nat}{f k:Int}(h:wth n f k=true):0≤f∧0≤k∧f+k≤(n:Int):=by
  simp only [wth,Bool.and_eq_true,decide_eq_true_eq]at h
  omega
theorem trn_no {p:Nat→Bool}{n:Nat}{f k:Int}{B:Bool}(h:wth n f k=false):trn p n f k B=p:=by
  unfold trn;rw [h];rfl
theorem trn_yes {p:Nat→Bool}{n:Nat}{f k:Int}{B:Bool}(h:wth n f k=true):trn p n f k B=setR p f.toNat k.toNat B:=by
  unfold trn;rw [if_pos h]
theorem trnE_no {n:Nat}{f k:Int}(h:wth n f k=false):3=trnE n f k:=by unfold trnE;rw [h];rfl
theorem trnE_yes {n:Nat}{f k:Int}(h:wth n f k=true):0=trnE n f k:=by unfold trnE;rw [if_pos h]
theorem Words.turnI {ws:Nat→Nat}{nw n:Nat}{p:Nat→Bool}{f x m:Int}{B:Bool}(h:Words ws nw n (setR p f.toNat (x-f).toNat B))(h0:0≤f)(h1:f≤x)(hm:0≤m)(hm2:m≤64-x%64)(hn:x+m≤(n:Int)):
    Words (putW ws (Int.toNat (x/64)) (tOp B (ws (Int.toNat (x/64))) (mkM (x%64).toNat m.toNat))) nw n (setR p f.toNat (x+m-f).toNat B):=by
  have:=h.turn (f:=x.toNat) (k:=m.toNat) B (by omega) (by omega);rw [show x.toNat=f.toNat+(x-f).toNat by omega,setR_setR,show(x-f).toNat+m.toNat=(x+m-f).toNat by omega,show f.toNat+(x-f).toNat=x.toNat by omega]at this;rw [show Int.toNat (x/64)=x.toNat/64 by omega,show Int.toNat (x%64)=x.toNat%64 by omega];exact this
theorem words_none (n:Nat):Words (fun _=>0) ((n+63)/64) n (fun _=>false):=⟨rfl,fun j _ i _=>by simp,fun j _=>by simp⟩
set_option linter.unusedVariables false
theorem u64s_rel (ws:Nat→Nat)(o i:Nat):u64s ws o (o+i*1)=.int .u64 (ws i:Int):=by unfold u64s;rw [Nat.mul_one,Nat.add_sub_cancel_left]
theorem u64s_abs (ws:Nat→Nat)(i:Nat):u64s ws 0 i=.int .u64 (ws i:Int):=rfl
theorem u64s_putv (ws:Nat→Nat)(j v o:Nat):u64s (putW ws j v) 0 o=if o=j then Value.int .u64 (v:Int)else u64s ws 0 o:=(congrFun (u64s_put ws j v) o).symm
def boolsV (p:Nat→Bool)(o x:Nat):Value:=.bool (p (x-o))
def putB (p:Nat→Bool)(i:Nat)(b:Bool)(x:Nat):Bool:=if x=i then b else p x
theorem boolsV_put (p:Nat→Bool)(i:Nat)(b:Bool):(fun x=>if x=i then Value.bool b else boolsV p 0 x)=boolsV (putB p i b) 0:=by
  funext x;unfold boolsV putB;simp only [Nat.sub_zero];split<;>rfl
theorem boolsV_rel (p:Nat→Bool)(o i:Nat):boolsV p o (o+i*1)=.bool (p i):=by unfold boolsV;rw [Nat.mul_one,Nat.add_sub_cancel_left]
theorem boolsV_putv (p:Nat→Bool)(i:Nat)(b:Bool)(o:Nat):boolsV (putB p i b) 0 o=if o=i then Value.bool b else boolsV p 0 o:=(congrFun (boolsV_put p i b) o).symm
def bytes (f:Nat→UInt8)(o x:Nat):Value:=.int .u8 ((f (x-o)).toNat:Int)
theorem bytes_rel (f:Nat→UInt8)(o i:Nat):bytes f o (o+i*1)=.int .u8 ((f i).toNat:Int):=by unfold bytes;rw [Nat.mul_one,Nat.add_sub_cancel_left]
theorem bytes_abs (f:Nat→UInt8)(i:Nat):bytes f 0 i=.int .u8 ((f i).toNat:Int):=rfl
theorem ints_rel (l:List Int)(o i:Nat):ints l o (o+i*1)=.int .i64 (l.getD i 0):=by unfold ints;rw [Nat.mul_one,Nat.add_sub_cancel_left]
theorem ints_abs (l:List Int)(i:Nat):ints l 0 i=.int .i64 (l.getD i 0):=rfl
theorem dbT_rel (i:Nat):dbT (0+i*1)=.int .u8 (dbL.getD i 0):=by unfold dbT;rw [Nat.mul_one,Nat.zero_add]
def zerosP:Nat→Value:=fun _=>.pointer none
theorem agg3 {a b c a' b' c':Value}(h1:a=a')(h2:b=b')(h3:c=c'):Value.agg #[a,b,c]=.agg #[a',b',c']:=by rw [h1,h2,h3]
theorem agg5 {a b c d e a' b' c' d' e':Value}(h1:a=a')(h2:b=b')(h3:c=c')(h4:d=d')(h5:e=e'):Value.agg #[a,b,c,d,e]=.agg #[a',b',c',d',e']:=by rw [h1,h2,h3,h4,h5]
theorem HE.cells_eq {w:World}{b:Nat}{cs cs':List Value}{T:TypeId}(h:HE.holds w b (.cells cs T))(e:cs=cs'):HE.holds w b (.cells cs' T):=e▸h
theorem HE.row_eq {w:World}{b:Nat}{e:TypeId}{n tot:Nat}{f g:Nat→Value}(h:HE.holds w b (.row e n tot f))(hg:∀o,o<n→g o=f o):HE.holds w b (.row e n tot g):=by
  obtain⟨c,h1,h2,h3,h4⟩:=h;exact⟨c,h1,h2,h3,fun o ho=>(h4 o ho).trans (congrArg some (hg o ho).symm)⟩
theorem res_eq {w:World}{r r':Res}(e:r=r')(h:r.R w):r'.R w:=e▸h
theorem shl2_i64 {a b:Int}(h0:0≤b)(h1:b≤62)(h2:0≤a∧a*2^b.toNat≤9223372036854775807):0≤b∧IntKind.i64.wrap (a*2^(min (Int.toNat b) 64))=a*2^b.toNat:=by
  refine⟨h0,?_⟩;rw [show min (Int.toNat b) 64=b.toNat by omega];refine i64_in ⟨?_,h2.2⟩;have:=Int.mul_nonneg h2.1 (Int.le_of_lt (Int.pow_pos (n:=2) (by decide):(0:Int)<2^b.toNat));omega
theorem shr2_i64 {a b:Int}(h0:0≤b)(h1:b≤63)(h2:True):0≤b∧Int.fdiv a (2^(min (Int.toNat b) 64))=a/2^b.toNat:=by
  refine⟨h0,?_⟩;rw [show min (Int.toNat b) 64=b.toNat by omega];exact Int.fdiv_eq_ediv_of_nonneg _ (Int.le_of_lt (Int.pow_pos (by decide)))
theorem zf_all {P:Program}{t:TypeId}{n:Nat}{v:Value}(h:((P.info? t).bind fun i=>i.zero)=some (.agg (Array.replicate n v)))(o:Nat)(ho:o<n):v=zf P t o:=by
  unfold zf
  cases hi:P.info? t with
  |none=>rw [hi]at h;cases h
  |some i=>
    rw [hi]at h;have h:i.zero=some _:=h
    simp only [h,Value.cells]
    simp [Array.getD_eq_getD_getElem?,ho]
def pc1 (x:Int):Int:=IntKind.wrap .u64 (iand .u64 (Int.fdiv x (2^1)) 6148914691236517205+iand .u64 x 6148914691236517205)
def pc2 (x:Int):Int:=IntKind.wrap .u64 (iand .u64 (Int.fdiv x (2^2)) 3689348814741910323+iand .u64 x 3689348814741910323)
def pc3 (x:Int):Int:=iand .u64 (IntKind.wrap .u64 (Int.fdiv x (2^4)+x)) 1085102592571150095
def pc4 (k:Nat)(x:Int):Int:=IntKind.wrap .u64 (x+Int.fdiv x (2^k))
def pcI (x:Int):Int:=iand .i64 (IntKind.wrap .i64 (pc4 32 (pc4 16 (pc4 8 (pc3 (pc2 (pc1 x))))))) 127
theorem wth_of {n:Nat}{f k:Int}(h0:0≤f)(h1:0≤k)(h2:f+k≤(n:Int)):wth n f k=true:=by
  simp only [wth,Bool.and_eq_true,decide_eq_true_eq];omega
theorem trnE_0 {n:Nat}{f k:Int}(h0:0≤f)(h1:0≤k)(h2:f+k≤(n:Int)):trnE n f k=0:=(trnE_yes (wth_of h0 h1 h2)).symm
theorem trnE_wth {n:Nat}{f k:Int}(h:trnE n f k=0):wth n f k=true:=by
  unfold trnE at h
  split at h
  · assumption
  · omega
def val (w:Nat):List Nat→Nat
  |[]=>0
  |d::l=>d+2^w*val w l
def mask (w:Nat):Nat→Nat
  |0=>0
  |n+1=>(2^w-1)+2^(2*w)*mask w n
def evens:List Nat→List Nat
  |[]=>[]
  |[a]=>[a]
  |a::_::l=>a::evens l
def pairs:List Nat→List Nat
  |[]=>[]
  |[a]=>[a]
  |a::b::l=>(a+b)::pairs l
def adj:List Nat→List Nat
  |[]=>[]
  |[a]=>[a]
  |a::b::l=>(a+b)::adj (b::l)
theorem val_lt {w:Nat} :∀ {l:List Nat},(∀d∈l,d<2^w)→val w l<2^(w*l.length)
  |[],_=>by simp [val]
  |d::l,h=>by
    have h1:=val_lt (l:=l) fun x hx=>h x (List.mem_cons_of_mem _ hx)
    have h2:=h d List.mem_cons_self
    simp only [val,List.length_cons]
    rw [Nat.mul_succ,Nat.pow_add,Nat.mul_comm (2^(w*l.length))];have:2^w*(val w l+1)≤2^w*2^(w*l.length):=Nat.mul_le_mul_left _ h1;rw [Nat.mul_add]at this;omega
theorem and_split {w a A b B:Nat}(ha:a<2^w)(hb:b<2^w):(a+2^w*A)&&&(b+2^w*B)=(a&&&b)+2^w*(A&&&B):=by
  apply Nat.eq_of_testBit_eq
  intro i;have hab:a&&&b<2^w:=Nat.lt_of_le_of_lt Nat.and_le_left ha;rw [Nat.testBit_and,Nat.add_comm a,Nat.add_comm b,Nat.add_comm (a&&&b),Nat.testBit_two_pow_mul_add A ha,Nat.testBit_two_pow_mul_add B hb,Nat.testBit_two_pow_mul_add _ hab]
  split
  · rw [Nat.testBit_and]
  · rw [Nat.testBit_and]
theorem val_and {w:Nat} :∀(n:Nat) (l:List Nat),l.length≤2*n→(∀d∈l,d<2^w)→val w l&&&mask w n=val (2*w) (evens l)
  |n,[],_,_=>by simp [val,evens]
  |0,_::_,h,_=>by simp at h
  |n+1,[a],_,h=>by
    have ha:=h a (by simp);have hp:1≤2^w:=Nat.one_le_two_pow;have hle:2^w≤2^(2*w):=Nat.pow_le_pow_right (by omega) (by omega)
    simp only [val,mask,evens,Nat.mul_zero,Nat.add_zero]
    have:=and_split (w:=2*w) (a:=a) (A:=0) (b:=2^w-1) (B:=mask w n) (by omega) (by omega);rw [Nat.mul_zero,Nat.add_zero]at this;rw [this,Nat.zero_and,Nat.mul_zero,Nat.add_zero,Nat.and_two_pow_sub_one_eq_mod,Nat.mod_eq_of_lt ha]
  |n+1,a::b::l,hl,h=>by
    have ha:=h a (by simp);have hb:=h b (by simp);have hp:1≤2^w:=Nat.one_le_two_pow;have ih:=val_and n l (by simp at hl;omega) fun d hd=>h d (by simp [hd])
    simp only [val,mask,evens]
    have e:2^(2*w)=2^w*2^w:=by rw [←Nat.pow_add];congr 1;omega
    have hlt:a+2^w*b<2^(2*w):=by
      rw [e];have:2^w*(b+1)≤2^w*2^w:=Nat.mul_le_mul_left _ hb;rw [Nat.mul_add]at this;omega
    have hle:2^w≤2^(2*w):=Nat.pow_le_pow_right (by omega) (by omega)
    have e2:a+2^w*(b+2^w*val w l)=(a+2^w*b)+2^(2*w)*val w l:=by
      rw [e,Nat.mul_add,Nat.mul_assoc,Nat.add_assoc]
    rw [e2,and_split hlt (by omega),ih,Nat.and_two_pow_sub_one_eq_mod,Nat.add_mul_mod_self_left,Nat.mod_eq_of_lt ha]
theorem val_shift {w d:Nat}{l:List Nat}(h:d<2^w):val w (d::l)/2^w=val w l:=by
  simp only [val]
  rw [Nat.add_mul_div_left _ _ (Nat.pow_pos (by omega)),Nat.div_eq_of_lt h,Nat.zero_add]
theorem val_pairs {w:Nat} :∀(l:List Nat),val w (evens l.tail)+val w (evens l)=val w (pairs l)
  |[]=>by simp [evens,pairs,val]
  |[a]=>by simp [evens,pairs,val]
  |[a,b]=>by simp [evens,pairs,val];omega
  |a::b::c::l=>by
    have ih:=val_pairs (w:=w) (c::l)
    simp only [List.tail_cons]at ih⊢
    have e:evens (b::c::l)=b::evens l:=rfl;have e1:evens (a::b::c::l)=a::evens (c::l):=rfl;have e2:pairs (a::b::c::l)=(a+b)::pairs (c::l):=rfl;rw [e,e1,e2]
    simp only [val]
    rw [←ih,Nat.mul_add];omega
theorem val_adj {w:Nat} :∀(l:List Nat),val w l.tail+val w l=val w (adj l)
  |[]=>by simp [adj,val]
  |[a]=>by simp [adj,val]
  |a::b::l=>by
    have ih:=val_adj (w:=w) (b::l)
    simp only [List.tail_cons]at ih⊢
    have e2:adj (a::b::l)=(a+b)::adj (b::l):=rfl;rw [e2]
    show val w (b::l)+(a+2^w*val w (b::l))=(a+b)+2^w*val w (adj (b::l))
    rw [←ih,Nat.mul_add];have:val w (b::l)=b+2^w*val w l:=rfl;omega
theorem evens_adj:∀(l:List Nat),evens (adj l)=pairs l
  |[]=>rfl
  |[a]=>rfl
  |[a,b]=>rfl
  |a::b::c::l=>by
    have ih:=evens_adj (c::l);have e:adj (a::b::c::l)=(a+b)::(b+c)::adj (c::l):=rfl;rw [e]
    show(a+b)::evens (adj (c::l))=(a+b)::pairs (c::l)
    rw [ih]
theorem pairs_sum:∀(l:List Nat),(pairs l).sum=l.sum
  |[]=>rfl
  |[a]=>rfl
  |a::b::l=>by
    have:=pairs_sum l
    simp only [pairs,List.sum_cons,this];omega
theorem pairs_le {m:Nat} :∀(l:List Nat),(∀d∈l,d≤m)→∀d∈pairs l,d≤2*m
  |[],_=>by simp [pairs]
  |[a],h=>by
    intro d hd
    simp only [pairs,List.mem_singleton]at hd
    subst hd;have:=h d (by simp);omega
  |a::b::l,h=>by
    intro d hd
    simp only [pairs,List.mem_cons]at hd
    rcases hd with rfl|hd
    · have:=h a (by simp);have:=h b (by simp);omega
    · exact pairs_le l (fun x hx=>h x (by simp [hx])) d hd
theorem adj_le {m:Nat} :∀(l:List Nat),(∀d∈l,d≤m)→∀d∈adj l,d≤2*m
  |[],_=>by simp [adj]
  |[a],h=>by
    intro d hd
    simp only [adj,List.mem_singleton]at hd
    subst hd;have:=h d (by simp);omega
  |a::b::l,h=>by
    intro d hd
    simp only [adj,List.mem_cons]at hd
    rcases hd with rfl|hd
    · have:=h a (by simp);have:=h b (by simp);omega
    · exact adj_le (b::l) (fun x hx=>h x (by simp at hx⊢;exact .inr hx)) d hd
theorem adj_length:∀(l:List Nat),(adj l).length=l.length
  |[]=>rfl
  |[a]=>rfl
  |a::b::l=>by
    have:=adj_length (b::l)
    simp only [adj,List.length_cons]at this⊢
    omega
theorem pairs_length:∀(l:List Nat),(pairs l).length=(l.length+1)/2
  |[]=>rfl
  |[a]=>by simp [pairs]
  |a::b::l=>by
    have:=pairs_length l
    simp only [pairs,List.length_cons]
    omega
theorem step_sum {w n:Nat}{l:List Nat}(hl:l.length≤2*n)(h:∀d∈l,d<2^w):(val w l/2^w&&&mask w n)+(val w l&&&mask w n)=val (2*w) (pairs l):=by
  rw [val_and n l hl h,←val_pairs]
  congr 1
  cases l with
  |nil=>simp [val,evens]
  |cons d l=>
    rw [val_shift (h d (by simp)),List.tail_cons];exact val_and n l (by simp at hl;omega) fun x hx=>h x (by simp [hx])
theorem step_mid {w n:Nat}{l:List Nat}(hl:l.length≤2*n)(h:∀d∈l,2*d<2^w):(val w l/2^w+val w l)&&&mask w n=val (2*w) (pairs l):=by
  have e:val w l/2^w+val w l=val w (adj l):=by
    rw [←val_adj]
    congr 1
    cases l with
    |nil=>simp [val]
    |cons d l=>rw [val_shift (by have:=h d (by simp);omega),List.tail_cons]
  rw [e,val_and n (adj l) (by rw [adj_length];exact hl) ?_,evens_adj];intro d hd;have:=adj_le (m:=(2^w-1)/2) l (fun x hx=>by have:=h x hx;omega) d hd;have hp:1≤2^w:=Nat.one_le_two_pow;omega
def bits (x:Nat):Nat→List Nat
  |0=>[]
  |n+1=>x%2::bits (x/2) n
theorem bits_val:∀(n x:Nat),x<2^n→val 1 (bits x n)=x
  |0,x,h=>by simp at h;subst h;rfl
  |n+1,x,h=>by
    simp only [bits,val]
    rw [bits_val n (x/2) (by rw [Nat.pow_succ]at h;omega)];omega
theorem bits_le:∀(n x:Nat),∀d∈bits x n,d≤1
  |0,_=>by simp [bits]
  |n+1,x=>by
    intro d hd
    simp only [bits,List.mem_cons]at hd
    rcases hd with rfl|hd
    · omega
    · exact bits_le n _ d hd
theorem bits_length:∀(n x:Nat),(bits x n).length=n
  |0,_=>rfl
  |n+1,x=>by simp [bits,bits_length n]
theorem val_sum {w:Nat}{l:List Nat}(h:∀d∈l,d<2^w):val w l/2^w+val w l=val w (adj l):=by
  rw [←val_adj]
  congr 1
  cases l with
  |nil=>simp [val]
  |cons d l=>rw [val_shift (h d (by simp)),List.tail_cons]
theorem val_sum_lt {w n:Nat}{l:List Nat}(h:∀d∈l,2*d<2^w)(hl:l.length=n):val w l/2^w+val w l<2^(w*n):=by
  rw [val_sum (fun d hd=>by have:=h d hd;omega)]
  have:=val_lt (w:=w) (l:=adj l) (fun d hd=>by
    have:=adj_le (m:=(2^w-1)/2) l (fun x hx=>by have:=h x hx;omega) d hd;have hp:1≤2^w:=Nat.one_le_two_pow
    omega)
  rw [adj_length,hl]at this;exact this
theorem v2 {a b:Nat}{l:List Nat}(ha:a<256)(hb:b<256):val 8 (a::b::l)/2^16=val 8 l:=by
  rw [show(2:Nat)^16=2^8*2^8 from rfl,←Nat.div_div_eq_div_mul,val_shift (w:=8) ha,val_shift (w:=8) hb]
theorem v4 {a b c d:Nat}{l:List Nat}(ha:a<256)(hb:b<256)(hc:c<256)(hd:d<256):val 8 (a::b::c::d::l)/2^32=val 8 l:=by
  rw [show(2:Nat)^32=2^16*2^16 from rfl,←Nat.div_div_eq_div_mul,v2 ha hb,v2 hc hd]
theorem vlow {d:Nat}{l:List Nat}(h:d<128):val 8 (d::l)%128=d:=by
  show(d+2^8*val 8 l)%128=d
  omega
theorem val8_lt {l:List Nat}(h:∀d∈l,d<256)(hl:l.length=8):val 8 l<2^64:=by
  have:=val_lt (w:=8) (l:=l) h;rw [hl]at this;exact this
theorem all8 {P:Nat→Prop}{a b c d e f g h:Nat}(ha:P a)(hb:P b)(hc:P c)(hd:P d)(he:P e)(hf:P f)(hg:P g)(hh:P h):∀x∈[a,b,c,d,e,f,g,h],P x:=by
  intro x hx
  simp only [List.mem_cons,List.not_mem_nil,or_false]at hx
  rcases hx with rfl|rfl|rfl|rfl|rfl|rfl|rfl|rfl<;>assumption
theorem last_steps {f0 f1 f2 f3 f4 f5 f6 f7:Nat}(h0:f0≤8)(h1:f1≤8)(h2:f2≤8)(h3:f3≤8)(h4:f4≤8)(h5:f5≤8)(h6:f6≤8)(h7:f7≤8):
    ∃a:Nat,a=val 8 [f0,f1,f2,f3,f4,f5,f6,f7]+val 8 [f0,f1,f2,f3,f4,f5,f6,f7]/2^8∧a<2^64∧∃b:Nat,b=a+a/2^16∧b<2^64∧∃c:Nat,c=b+b/2^32∧c<2^64∧c%128=f0+f1+f2+f3+f4+f5+f6+f7:=by
  have ea:val 8 [f0,f1,f2,f3,f4,f5,f6,f7]+val 8 [f0,f1,f2,f3,f4,f5,f6,f7]/2^8=val 8 [f0+f1,f1+f2,f2+f3,f3+f4,f4+f5,f5+f6,f6+f7,f7]:=by
    rw [val_shift (w:=8) (by omega),Nat.add_comm];exact val_adj (w:=8) [f0,f1,f2,f3,f4,f5,f6,f7]
  refine⟨_,ea.symm,val8_lt (all8 (by omega) (by omega) (by omega) (by omega) (by omega) (by omega) (by omega) (by omega)) rfl,?_⟩
  have eb:val 8 [f0+f1,f1+f2,f2+f3,f3+f4,f4+f5,f5+f6,f6+f7,f7]+val 8 [f0+f1,f1+f2,f2+f3,f3+f4,f4+f5,f5+f6,f6+f7,f7]/2^16=
      val 8 [f0+f1+(f2+f3),f1+f2+(f3+f4),f2+f3+(f4+f5),f3+f4+(f5+f6),f4+f5+(f6+f7),f5+f6+f7,f6+f7,f7]:=by
    rw [v2 (by omega) (by omega)]
    simp only [val,Nat.mul_add]
    omega
  refine⟨_,eb.symm,val8_lt (all8 (by omega) (by omega) (by omega) (by omega) (by omega) (by omega) (by omega) (by omega)) rfl,?_⟩
  generalize hg0:f0+f1+(f2+f3)=g0
  generalize hg1:f1+f2+(f3+f4)=g1
  generalize hg2:f2+f3+(f4+f5)=g2
  generalize hg3:f3+f4+(f5+f6)=g3
  generalize hg4:f4+f5+(f6+f7)=g4
  generalize hg5:f5+f6+f7=g5
  generalize hg6:f6+f7=g6
  have ec:val 8 [g0,g1,g2,g3,g4,g5,g6,f7]+val 8 [g0,g1,g2,g3,g4,g5,g6,f7]/2^32=val 8 [g0+g4,g1+g5,g2+g6,g3+f7,g4,g5,g6,f7]:=by
    rw [v4 (by omega) (by omega) (by omega) (by omega)];clear hg0 hg1 hg2 hg3 hg4 hg5 hg6
    simp only [val,Nat.mul_add]
    omega
  refine⟨_,ec.symm,val8_lt (all8 (by omega) (by omega) (by omega) (by omega) (by omega) (by omega) (by omega) (by omega)) rfl,?_⟩;rw [vlow (by omega)];omega
def pcN (x n:Nat):Nat:=(bits x n).sum
theorem mask1:mask 1 32=6148914691236517205:=by decide+kernel
theorem mask2:mask 2 16=3689348814741910323:=by decide+kernel
theorem mask4:mask 4 8=1085102592571150095:=by decide+kernel
theorem fdiv_nat (x k:Nat):Int.fdiv ((x:Nat):Int) (2^k)=((x/2^k:Nat):Int):=by
  rw [Int.fdiv_eq_ediv_of_nonneg _ (Int.le_of_lt (Int.pow_pos (by omega)))]
  push_cast
  rfl
theorem pc1_nat {x:Nat}(h:x<2^64)(h2:(x/2^1&&&6148914691236517205)+(x&&&6148914691236517205)<2^64):pc1 (x:Int)=(((x/2^1&&&6148914691236517205)+(x&&&6148914691236517205):Nat):Int):=by
  unfold pc1
  rw [fdiv_nat];have e1:=iand_u (a:=x/2^1) (b:=6148914691236517205) (Nat.lt_of_le_of_lt (Nat.div_le_self _ _) h) (by decide);have e2:=iand_u (a:=x) (b:=6148914691236517205) h (by decide);have c:((6148914691236517205:Nat):Int)=6148914691236517205:=rfl;rw [c]at e1 e2;rw [e1,e2,←Int.natCast_add];exact wrapU_nat h2
theorem pc2_nat {x:Nat}(h:x<2^64)(h2:(x/2^2&&&3689348814741910323)+(x&&&3689348814741910323)<2^64):pc2 (x:Int)=(((x/2^2&&&3689348814741910323)+(x&&&3689348814741910323):Nat):Int):=by
  unfold pc2
  rw [fdiv_nat];have e1:=iand_u (a:=x/2^2) (b:=3689348814741910323) (Nat.lt_of_le_of_lt (Nat.div_le_self _ _) h) (by decide);have e2:=iand_u (a:=x) (b:=3689348814741910323) h (by decide);have c:((3689348814741910323:Nat):Int)=3689348814741910323:=rfl;rw [c]at e1 e2;rw [e1,e2,←Int.natCast_add];exact wrapU_nat h2
theorem pc3_nat {x:Nat}(h2:x/2^4+x<2^64):pc3 (x:Int)=(((x/2^4+x)&&&1085102592571150095:Nat):Int):=by
  unfold pc3
  rw [fdiv_nat,←Int.natCast_add,wrapU_nat h2];exact iand_u h2 (by decide)
theorem pc4_nat {k x:Nat}(h2:x+x/2^k<2^64):pc4 k (x:Int)=((x+x/2^k:Nat):Int):=by
  unfold pc4
  rw [fdiv_nat,←Int.natCast_add,wrapU_nat h2]
theorem wrap_mod {c:Nat}(h:c<18446744073709551616):IntKind.i64.wrap (c:Int)%18446744073709551616=(c:Int):=by
  rw [IntKind.wrap_i64];omega
theorem ofInt_wrap {c:Nat}(h:c<18446744073709551616):BitVec.ofInt 64 (IntKind.i64.wrap (c:Int))=BitVec.ofNat 64 c:=by
  apply BitVec.eq_of_toNat_eq
  rw [BitVec.toNat_ofInt,bv_small h];have e:=wrap_mod h
  generalize IntKind.i64.wrap (c:Int)=y at*
  rw [show(2:Nat)^64=18446744073709551616 by decide+kernel];omega
theorem low7 {c:Nat}(h:c<18446744073709551616):iand .i64 (IntKind.wrap .i64 (c:Int)) 127=((c%128:Nat):Int):=by
  unfold iand
  show IntKind.i64.wrap ((BitVec.ofInt 64 (IntKind.i64.wrap (c:Int))&&&BitVec.ofInt 64 ((127:Nat):Int)).toNat:Int)=_
  rw [ofInt_wrap h,ofInt_nat64,BitVec.toNat_and,bv_small h,bv_small (by decide),show(127:Nat)=2^7-1 by decide,Nat.and_two_pow_sub_one_eq_mod];exact i64_in (by omega)
theorem pcI_eq {x:Nat}(h:x<2^64):pcI (x:Int)=((pcN x 64:Nat):Int):=by
  have l0:(bits x 64).length=64:=bits_length 64 x;have m0:∀d∈bits x 64,d≤1:=bits_le 64 x;have v0:val 1 (bits x 64)=x:=bits_val 64 x h;have s1:=step_sum (w:=1) (n:=32) (l:=bits x 64) (by omega) (fun d hd=>by have:=m0 d hd;omega);rw [v0,mask1]at s1;have l1:(pairs (bits x 64)).length=32:=by rw [pairs_length,l0]
  have m1:=pairs_le _ m0;have u1:(pairs (bits x 64)).sum=pcN x 64:=pairs_sum _
  generalize pairs (bits x 64)=c1 at s1 l1 m1 u1
  have b1:val (2*1) c1<2^64:=by have:=val_lt (w:=2) (l:=c1) (fun d hd=>by have:=m1 d hd;omega);rw [l1]at this;exact this
  have s2:=step_sum (w:=2) (n:=16) (l:=c1) (by omega) (fun d hd=>by have:=m1 d hd;omega);rw [mask2]at s2;have l2:(pairs c1).length=16:=by rw [pairs_length,l1]
  have m2:=pairs_le _ m1;have u2:(pairs c1).sum=pcN x 64:=(pairs_sum _).trans u1
  generalize pairs c1=c2 at s2 l2 m2 u2
  have b2:val (2*2) c2<2^64:=by have:=val_lt (w:=4) (l:=c2) (fun d hd=>by have:=m2 d hd;omega);rw [l2]at this;exact this
  have s3:=step_mid (w:=4) (n:=8) (l:=c2) (by omega) (fun d hd=>by have:=m2 d hd;omega);rw [mask4]at s3;have l3:(pairs c2).length=8:=by rw [pairs_length,l2]
  have m3:=pairs_le _ m2;have u3:(pairs c2).sum=pcN x 64:=(pairs_sum _).trans u2
  generalize pairs c2=c3 at s3 l3 m3 u3
  have b3:=val_sum_lt (w:=4) (n:=16) (l:=c2) (fun d hd=>by have:=m2 d hd;omega) l2;rw [show 4*16=64 from rfl]at b3
  match c3,l3 with
  |[f0,f1,f2,f3,f4,f5,f6,f7],_=>
    obtain⟨a,ha,ha2,b,hb,hb2,c,hc,hc2,hcm⟩:=last_steps (m3 f0 (by simp)) (m3 f1 (by simp)) (m3 f2 (by simp)) (m3 f3 (by simp)) (m3 f4 (by simp)) (m3 f5 (by simp)) (m3 f6 (by simp)) (m3 f7 (by simp))
    unfold pcI
    have t1:pc1 (x:Int)=((val (2*1) c1:Nat):Int):=by rw [pc1_nat h (by rw [s1];exact b1),s1]
    have t2:pc2 ((val (2*1) c1:Nat):Int)=((val (2*2) c2:Nat):Int):=by rw [pc2_nat b1 (by rw [s2];exact b2),s2]
    have t3:pc3 ((val (2*2) c2:Nat):Int)=((val (2*4) [f0,f1,f2,f3,f4,f5,f6,f7]:Nat):Int):=by rw [pc3_nat b3,s3]
    rw [t1,t2,t3,pc4_nat (by rw [←ha];exact ha2),←ha,pc4_nat (by rw [←hb];exact hb2),←hb,pc4_nat (by rw [←hc];exact hc2),←hc,←u3];have e5:=low7 (c:=c) hc2;rw [e5,hcm]
    simp [List.sum_cons,Nat.add_assoc]
def cntR (p:Nat→Bool):Nat→Nat→Nat
  |_,0=>0
  |f,k+1=>(if p f then 1 else 0)+cntR p (f+1) k
theorem cntR_add (p:Nat→Bool):∀(a f b:Nat),cntR p f (a+b)=cntR p f a+cntR p (f+a) b
  |0,f,b=>by simp [cntR]
  |a+1,f,b=>by
    rw [show a+1+b=(a+b)+1 by omega]
    simp only [cntR]
    rw [cntR_add p a (f+1) b,show f+1+a=f+(a+1) by omega];omega
theorem cntR_none {p:Nat→Bool} :∀ {k f:Nat},(∀x,f≤x→x<f+k→p x=false)→cntR p f k=0
  |0,f,_=>rfl
  |k+1,f,h=>by
    simp only [cntR]
    rw [h f (by omega) (by omega),cntR_none fun x h1 h2=>h x (by omega) (by omega)]
    rfl
theorem cntR_congr {p q:Nat→Bool} :∀ {k f g:Nat},(∀i,i<k→p (f+i)=q (g+i))→cntR p f k=cntR q g k
  |0,_,_,_=>rfl
  |k+1,f,g,h=>by
    simp only [cntR]
    have h0:=h 0 (by omega)
    simp only [Nat.add_zero]at h0
    rw [h0,cntR_congr (f:=f+1) (g:=g+1) fun i hi=>by
      have:=h (i+1) (by omega)
      rwa [show f+(i+1)=f+1+i by omega,show g+(i+1)=g+1+i by omega]at this]
theorem cntR_le (p:Nat→Bool):∀k f,cntR p f k≤k
  |0,_=>Nat.le_refl _
  |k+1,f=>by
    have:=cntR_le p k (f+1)
    simp only [cntR]
    split<;>omega
theorem pcN_cnt:∀(n x:Nat),pcN x n=cntR (fun i=>x.testBit i) 0 n
  |0,x=>rfl
  |n+1,x=>by
    have ih:=pcN_cnt n (x/2)
    unfold pcN at ih⊢
    simp only [bits,List.sum_cons,cntR]
    rw [ih]
    have e:cntR (fun i=>(x/2).testBit i) 0 n=cntR (fun i=>x.testBit i) (0+1) n:=cntR_congr fun i _=>by
      show(x/2).testBit (0+i)=x.testBit (0+1+i)
      rw [show 0+1+i=i+1 by omega,Nat.testBit_succ,Nat.zero_add]
    rw [e]
    rcases Nat.mod_two_eq_zero_or_one x with h|h<;>simp [Nat.testBit_zero,h]
theorem cnt_mid {q:Nat→Bool}{r k n:Nat}(hr:r+k≤n)(z:∀i,i<r∨r+k≤i→q i=false):cntR q 0 n=cntR q r k:=by
  have e:n=r+(k+(n-r-k)):=by omega
  have z1:cntR q 0 r=0:=cntR_none fun i h1 h2=>z i (.inl (by omega))
  have z2:cntR q (r+k) (n-r-k)=0:=cntR_none fun i h1 h2=>z i (.inr h1)
  rw [e,cntR_add,cntR_add,Nat.zero_add,z1,z2,Nat.zero_add,Nat.add_zero]
theorem Words.count {ws:Nat→Nat}{nw n:Nat}{p:Nat→Bool}(h:Words ws nw n p){x k:Nat}(hk:x%64+k≤64)(hn:x+k≤n)(hk1:1≤k):
    pcI ((ws (x/64)&&&mkM (x%64) k:Nat):Int)=((cntR p x k:Nat):Int):=by
  have hj:x/64<nw:=by rw [h.many];omega
  have hlt:ws (x/64)&&&mkM (x%64) k<2^64:=Nat.lt_of_le_of_lt Nat.and_le_left (h.small _ hj)
  have z:cntR (fun i=>(ws (x/64)&&&mkM (x%64) k).testBit i) 0 64=cntR p x k:=by
    rw [cnt_mid (r:=x%64) (k:=k) hk]
    · refine cntR_congr fun i hi=>?_
      show(ws (x/64)&&&mkM (x%64) k).testBit (x%64+i)=p (x+i)
      rw [Nat.testBit_and,mkM_bit,h.bit _ hj _ (by omega)];rw [show 64*(x/64)+(x%64+i)=x+i by omega];have a1:x+i<n:=by omega
      have a2:x%64+i<x%64+k:=by omega
      simp [a1,a2]
    · intro i hi
      show(ws (x/64)&&&mkM (x%64) k).testBit i=false
      rw [Nat.testBit_and,mkM_bit]
      rcases hi with hi|hi
      · have:¬x%64≤i:=by omega
        simp [this]
      · have:¬i<x%64+k:=by omega
        simp [this]
  rw [pcI_eq hlt,pcN_cnt,z]
theorem Words.countI {ws:Nat→Nat}{nw n:Nat}{p:Nat→Bool}(h:Words ws nw n p){x m:Int}(h0:0≤x)(hm:1≤m)(hm2:m≤64-x%64)(hn:x+m≤(n:Int)):
    pcI ((ws (Int.toNat (x/64))&&&mkM (Int.toNat (x%64)) (Int.toNat m):Nat):Int)=((cntR p x.toNat m.toNat:Nat):Int):=by
  have:=h.count (x:=x.toNat) (k:=m.toNat) (by omega) (by omega) (by omega);rw [show Int.toNat (x/64)=x.toNat/64 by omega,show Int.toNat (x%64)=x.toNat%64 by omega,this]
theorem cnt_step {p:Nat→Bool}{f x m:Int}(h0:0≤f)(h1:f≤x)(hm:0≤m):((cntR p f.toNat (x-f).toNat:Nat):Int)+((cntR p x.toNat m.toNat:Nat):Int)=((cntR p f.toNat (x+m-f).toNat:Nat):Int):=by
  rw [show(x+m-f).toNat=(x-f).toNat+m.toNat by omega,cntR_add,show f.toNat+(x-f).toNat=x.toNat by omega,Int.natCast_add]
def cntV (p:Nat→Bool)(n:Nat)(f k:Int):Int:=if wth n f k then(cntR p f.toNat k.toNat:Int)else 0
theorem cntV_no {p:Nat→Bool}{n:Nat}{f k:Int}(h:wth n f k=false):0=cntV p n f k:=by unfold cntV;rw [h];rfl
theorem cntV_yes {p:Nat→Bool}{n:Nat}{f k:Int}(h:wth n f k=true):cntV p n f k=(cntR p f.toNat k.toNat:Int):=by unfold cntV;rw [if_pos h]
theorem bits_Len_ (g:Nat)(o:Nat)(c:Nat)(nw:Nat)(n:Nat)(w:World):
    Calls Tryz.prog 60 #[.agg #[vi (n:Int),sc g o nw c]] w fun e w'=>e=.returned (vi (n:Int))∧Fr w w' no no:=by
 refine enter (args:=[.agg #[vi (n:Int),sc g o nw c]]) (D:=no) (A:=[]) Tryz.func60 rfl 5 rfl [] (WS.startL trivial) fun ac hS=>?_;refine hS.regS [0,0] [] fun ν1=>seg [(1,pt (ν1 0) 0)] [(0,some ((ν1 0),.cells [vi (n:Int),sc g o nw c] 95))] [] tv fun ac wd hS=>?_;refine hS.regS [0,0,0] [] fun _=>seg [(2,vi (n:Int))] [] [.e (ν1 0)] tv fun ac wd hS=>?_;refine wp_ret ?_;refine St.retC 0 hS (vi (n:Int)) [] tv fun hw=>?_;refine⟨retd rfl,hw.fr0⟩
theorem bits_within (g:Nat)(o:Nat)(c:Nat)(nw:Nat)(n:Nat)(f:Int)(k:Int)(w:World)(hn:n≤1048576):
    Calls Tryz.prog 125 #[.agg #[vi (n:Int),sc g o nw c],vi f,vi k] w fun e w'=>e=.returned (vb (wth n f k))∧Fr w w' no no:=by
 refine enter (args:=[.agg #[vi (n:Int),sc g o nw c],vi f,vi k]) (D:=no) (A:=[]) Tryz.func125 rfl 27 rfl [] (WS.startL trivial) fun ac hS=>?_;refine hS.regS [0,0] [1,2] fun ν1=>seg [(3,pt (ν1 0) 0)] [(0,some ((ν1 0),.cells [vi (n:Int),sc g o nw c] 95))] [] tv fun ac wd hS=>?_;refine zwq ?_;refine hS.opsC 13 [0,0,0,3,3,80,0,3,3,3,3,80,0] [1,2,3] fun _=>seg [(19,vb (((decide ((0:Int)≤f))&&(decide ((0:Int)≤k)))&&(decide ((k:Int)≤(n:Int)))))] [(0,none)] [.p (((((decide ((0:Int)≤f))&&(decide ((0:Int)≤k)))=true)∧True)→AllP [((ν1 0):Nat)=(ν1 0)])] ⟨(fun⟨hc0,_⟩=>by replace hc0:=nrm hc0;exact⟨rfl,trivial⟩),tv⟩ fun ac wd hS=>?_
 rcases Bool.eq_false_or_eq_true (((decide ((0:Int)≤f))&&(decide ((0:Int)≤k)))&&(decide ((k:Int)≤(n:Int))))with hg1o|hg1o
 ·
  have hg1:=nrm hg1o;replace hS:=hS.fix 19 (vb true) (congrArg Value.bool hg1o);refine hS.opsC 8 [1,1,1,1,21,1,70,0] [] fun _=>seg [(6,vb (decide ((f:Int)≤((n:Int)-k))))] [] [.t true,.t true,.t true,.p (fit .i64 ((n:Int)-k)),.t true,.t true,.e (ν1 0),.t true,.t true] ⟨zf6 (by omega),tv⟩ fun ac wd hS=>?_;refine zlq ?_;refine wp_ret ?_;refine St.retC 0 hS (vb (decide ((f:Int)≤((n:Int)-k)))) [] tv fun hw=>?_;refine⟨retd (vbool ?_),hw.fr0⟩
  all_goals (first|rfl|(simp [wth];done)|(simp [wth];omega)|(simp_all [wth];done)|(simp_all [wth];omega))
 ·
  have hg1:=nrm hg1o;replace hS:=hS.fix 19 (vb false) (congrArg Value.bool hg1o);refine hS.opsC 8 [2,2,2,2,2,2,60,0] [] fun _=>seg [(6,vb false)] [] [.t false,.t false,.t false,.t false,.t false,.t false,.t false] tv fun ac wd hS=>?_;refine zlq ?_;refine wp_ret ?_;refine St.retC 0 hS (vb false) [] tv fun hw=>?_;refine⟨retd (vbool ?_),hw.fr0⟩
  all_goals (first|rfl|(simp [wth];done)|(simp [wth];omega)|(simp_all [wth];done)|(simp_all [wth];omega))
theorem bits_mask (f:Int)(k:Int)(w:World)(hf:0≤f)(hk:1≤k):
    Calls Tryz.prog 126 #[vi f,vi k] w fun e w'=>e=.returned (.tuple #[vu ((mkM (f%64).toNat (imin k (64-f%64)).toNat:Nat):Int),vi (imin k (64-f%64))])∧Fr w w' no no:=by
 have hm:1≤imin k (64-f%64)∧imin k (64-f%64)≤64-f%64:=by unfold imin;split<;>omega
 refine enter (args:=[vi f,vi k]) (D:=no) (A:=[]) Tryz.func126 rfl 19 rfl [] (WS.startL trivial) fun ac hS=>?_;refine hS.regS [0,0] [0,1] (sg [] [] fun ac wd hS=>?_);refine hS.regS [0,0,20,20,0,0] [0] fun _=>seg [(6,vi (imin k (64-(f%64))))] [] [.p (fit .i64 (64-(f%64))),.p ((64:Int)≠0∧Int.tmod f 64=f%64)] ⟨zf6 (by omega),rem2 (by omega) (by omega),tv⟩ fun ac wd hS=>?_;refine hS.regS [0,10,0,0,20,10,0,0,0] [] fun _=>seg [(4,vu (IntKind.wrap .u64 ((IntKind.wrap .u64 ((IntKind.wrap .u64 (1*2^(min (Int.toNat (imin k (64-(f%64)))) 64)))-1))*2^(min (Int.toNat (f%64)) 64)))),(5,vi (imin k (64-(f%64))))] [] [.p (0≤(f%64)),.p ((64:Int)≠0∧Int.tmod f 64=f%64),.p (0≤(imin k (64-(f%64))))] ⟨by omega,rem2 (by omega) (by omega),by omega,tv⟩ fun ac wd hS=>?_;refine wp_ret ?_;refine St.retC 0 hS (.tuple #[vu (IntKind.wrap .u64 ((IntKind.wrap .u64 ((IntKind.wrap .u64 (1*2^(min (Int.toNat (imin k (64-(f%64)))) 64)))-1))*2^(min (Int.toNat (f%64)) 64))),vi (imin k (64-(f%64)))]) [] tv fun hw=>?_;refine⟨retd (tuple2 (vint ?_) (vint ?_)),hw.fr0⟩
 all_goals (first|rfl|exact mask_eq (x:=f%64) (k:=imin k (64-f%64)) (by omega) (by omega) (by omega) (by omega))
theorem bits_Tz (x:Nat)(w:World)(hh0:HE.holds w 1 (.fn 0 64 dbT))(h0:x<2^64)(h1:0<x):
    Calls Tryz.prog 120 #[vu (x:Int)] w fun e w'=>e=.returned (vi ((tz x:Nat):Int))∧Fr w w' no no:=by
 obtain⟨hd1,hd2⟩:=db_facts h0 h1
 simp only [Nat.mul_one,Nat.zero_add]at hd2
 refine enter (args:=[vu (x:Int)]) (D:=no) (A:=[]) Tryz.func120 rfl 14 rfl [(1,.fn 0 64 dbT)] (WS.startL ⟨⟨rfl,hh0⟩,trivial⟩) fun ac hS=>?_;refine hS.regS [0] [0] (sg [] [(0,none)] fun ac wd hS=>?_);refine wp_seq ?_;refine hS.regS [0,0] [0] (sg [(4,vb (((x:Int):Int)==0))] [(0,none)] fun ac wd hS=>?_);refine hS.condK (((x:Int):Int)==0) false (by simp;omega) ?_
 show Code.wp _ _ _ _ _
 refine wp_skip ?_;refine zpt ?_;refine hS.regS [0,0,0,0,0,0,30,fx 0 (v8 (dbL.getD (Int.toNat (Int.fdiv (IntKind.wrap .u64 ((iand .u64 (x:Int) (IntKind.wrap .u64 (0-(x:Int))))*285870213051353865)) (2^58))) 0)),0,0] [] fun _=>seg [(2,vi (IntKind.wrap .i64 (dbL.getD (Int.toNat (Int.fdiv (IntKind.wrap .u64 ((iand .u64 (x:Int) (IntKind.wrap .u64 (0-(x:Int))))*285870213051353865)) (2^58))) 0)))] [(0,none)] [.p (((dbT (0+Int.toNat (Int.fdiv (IntKind.wrap .u64 ((iand .u64 (x:Int) (IntKind.wrap .u64 (0-(x:Int))))*285870213051353865)) (2^58))*1)):Value)=v8 (dbL.getD (Int.toNat (Int.fdiv (IntKind.wrap .u64 ((iand .u64 (x:Int) (IntKind.wrap .u64 (0-(x:Int))))*285870213051353865)) (2^58))) 0)),.e 1,.p (0≤0+Int.toNat (Int.fdiv (IntKind.wrap .u64 ((iand .u64 (x:Int) (IntKind.wrap .u64 (0-(x:Int))))*285870213051353865)) (2^58))*1∧0+Int.toNat (Int.fdiv (IntKind.wrap .u64 ((iand .u64 (x:Int) (IntKind.wrap .u64 (0-(x:Int))))*285870213051353865)) (2^58))*1<64),.p (0≤(Int.fdiv (IntKind.wrap .u64 ((iand .u64 (x:Int) (IntKind.wrap .u64 (0-(x:Int))))*285870213051353865)) (2^58))∧(Int.fdiv (IntKind.wrap .u64 ((iand .u64 (x:Int) (IntKind.wrap .u64 (0-(x:Int))))*285870213051353865)) (2^58))<((64:Nat):Int))] ⟨(dbT_rel (Int.toNat (Int.fdiv (IntKind.wrap .u64 ((iand .u64 (x:Int) (IntKind.wrap .u64 (0-(x:Int))))*285870213051353865)) (2^58)))),(by first|exact hd1|omega),(by first|exact hd1|omega),tv⟩ fun ac wd hS=>?_;refine wp_ret ?_;refine St.retC 0 hS (vi (IntKind.wrap .i64 (dbL.getD (Int.toNat (Int.fdiv (IntKind.wrap .u64 ((iand .u64 (x:Int) (IntKind.wrap .u64 (0-(x:Int))))*285870213051353865)) (2^58))) 0))) [] tv fun hw=>?_;refine⟨retd (vint ?_),hw.fr0⟩
 all_goals (first|exact hd2|rfl)
theorem bits_First (g:Nat)(o:Nat)(c:Nat)(nw:Nat)(ws:Nat→Nat)(n:Nat)(f:Int)(v:Bool)(p:Nat→Bool)(w:World)(hh0:HE.holds w 1 (.fn 0 64 dbT))(hh1:HE.holds w g (.fn o (o+nw) (u64s ws o)))(hW:Words ws nw n p)(hn:n≤1048576):
    Calls Tryz.prog 157 #[.agg #[vi (n:Int),sc g o nw c],vi f,vb v] w fun e w'=>e=.returned (.tuple #[vi (fst1 p n f v),vb (fst2 p n f v)])∧Fr w w' no no:=by
 have hnw:=hW.many;have hsm:=hW.small;refine enter (args:=[.agg #[vi (n:Int),sc g o nw c],vi f,vb v]) (D:=no) (A:=[]) Tryz.func157 rfl 46 rfl [(1,.fn 0 64 dbT),(g,.fn o (o+nw) (u64s ws o))] (WS.startL ⟨⟨rfl,hh0⟩,⟨rfl,hh1⟩,trivial⟩) fun ac hS=>?_;refine hS.regS [0,0,0] [1,2] fun ν1=>seg [(3,pt (ν1 0) 0)] [(0,none),(1,none),(2,some ((ν1 0),.cells [vi (n:Int),sc g o nw c] 95))] [] tv fun ac wd hS=>?_;refine wp_seq ?_;refine hS.regS [0,0,0] [2,3] (sg [(8,vi (imax 0 f))] zn3 fun ac wd hS=>?_);refine wp_block ?_;refine St.loopC (σ:=Int) (fun(x8:Int)=>⟨[(2,[],vb v),(3,[],pt (ν1 0) 0),(8,[],vi x8)],[(1,.fn 0 64 dbT),(g,.fn o (o+nw) (u64s ws o)),((ν1 0),.cells [vi (n:Int),sc g o nw c] 95)],[],(0≤x8)∧(nxt p v n (at0 f)=nxt p v n x8.toNat∨(n≤Int.toNat x8∧n≤nxt p v n (at0 f)))∧True,n+64-Int.toNat x8⟩) (imax 0 f) ⟨(by first|(unfold imax;split<;>omega)|exact .inl rfl),(by first|(unfold imax;split<;>omega)|exact .inl rfl),trivial⟩ hS ?_;clear hS;rintro x8 ⟨i0,i1,-⟩ ac wd hS;replace i0:0≤x8:=i0;replace i1:nxt p v n (at0 f)=nxt p v n x8.toNat∨(n≤Int.toNat x8∧n≤nxt p v n (at0 f)):=i1;have hfa:=fun h=>first_facts hW (i:=x8) i0 h v
 refine wp_seq ?_;refine hS.regS [0,0,200,0] [2,3,8] fun _=>seg [(15,vb (decide ((x8:Int)<(n:Int))))] zn3 [.e (ν1 0)] tv fun ac wd hS=>?_;refine hS.condC (decide ((x8:Int)<(n:Int))) (fun hb1o hb1=>?_) (fun hb1o hb1=>?_)
 ·
  refine wp_skip ?_;refine zpt ?_;refine wp_block ?_;refine hS.regS [0,200,0,20,20,fx 100 (vu ((ws (Int.toNat (x8/64)):Nat):Int)),0] [2,3,8] fun _=>seg [(9,vu ((ws (Int.toNat (x8/64)):Nat):Int))] zn3 [.p ((((u64s ws o) (o+Int.toNat (x8/64)*1)):Value)=vu ((ws (Int.toNat (x8/64)):Nat):Int)),.e g,.p (o≤o+Int.toNat (x8/64)*1∧o+Int.toNat (x8/64)*1<(o+nw)),.p ((0:Int)≤(x8/64)∧((x8/64):Int)<(nw:Int)),.p ((64:Int)≠0∧IntKind.i64.wrap (Int.tdiv x8 64)=x8/64),.e (ν1 0)] ⟨(u64s_rel ws o (Int.toNat (x8/64))),(by omega),(by omega),quo2 (by omega) (by omega) (by omega),tv⟩ fun ac wd hS=>?_;refine wp_seq ?_;refine hS.regS [0,0] [2,3,8,9] (sg [(23,vb (!v))] zn3 fun ac wd hS=>?_);refine hS.condC (!v) (fun hb2o hb2=>?_) (fun hb2o hb2=>?_)
  ·
   have hwv:∀a,wv v a=flip a:=fun a=>by rw [hb2];rfl
   simp only [hwv]at hfa
   refine hS.regC [0,fx 0 (vu ((flip (ws (Int.toNat (x8/64))):Nat):Int)),0] [2,3,8] fun _=>seg [(9,vu ((flip (ws (Int.toNat (x8/64))):Nat):Int))] zn3 [.p ((vu (ixor .u64 18446744073709551615 ((ws (Int.toNat (x8/64)):Nat):Int)):Value)=vu ((flip (ws (Int.toNat (x8/64))):Nat):Int))] ⟨(vint (ixor_ones (a:=ws (Int.toNat (x8/64))) (by first|exact hW.small _ (by rw [hW.many];omega)|exact flip_lt _|(exact Nat.lt_of_le_of_lt (Nat.div_le_self _ _) (flip_lt _))|(exact Nat.lt_of_le_of_lt (Nat.div_le_self _ _) (hW.small _ (by omega)))|(exact mkM_lt (by omega))|omega))),tv⟩ fun ac wd hS=>?_;refine zpt ?_;refine wp_seq ?_;refine hS.regS [0,0,20,fx 10 (vu (((flip (ws (Int.toNat (x8/64))))/2^Int.toNat (x8%64):Nat):Int)),0] [2,3,8] fun _=>seg [(9,vu (((flip (ws (Int.toNat (x8/64))))/2^Int.toNat (x8%64):Nat):Int))] zn3 [.p ((vu (Int.fdiv ((flip (ws (Int.toNat (x8/64))):Nat):Int) (2^(min (Int.toNat (x8%64)) 64))):Value)=vu (((flip (ws (Int.toNat (x8/64))))/2^Int.toNat (x8%64):Nat):Int)),.p (0≤(x8%64)),.p ((64:Int)≠0∧Int.tmod x8 64=x8%64)] ⟨(vint (shr_u (a:=flip (ws (Int.toNat (x8/64)))) (r:=(x8%64)) (by omega) (by omega))),by omega,rem2 (by omega) (by omega),tv⟩ fun ac wd hS=>?_;refine hS.regS [0,0] [2,3,8,9] (sg [(31,vb (((((flip (ws (Int.toNat (x8/64))))/2^Int.toNat (x8%64):Nat):Int):Int)!=0))] zn3 fun ac wd hS=>?_);refine hS.condC (((((flip (ws (Int.toNat (x8/64))))/2^Int.toNat (x8%64):Nat):Int):Int)!=0) (fun hb3o hb3=>?_) (fun hb3o hb3=>?_)
   ·
    refine wp_seq ?_;refine zwq ?_;refine hS.opsC 2 [0,0] [3,8] (sg [(32,vi x8),(33,vu (((flip (ws (Int.toNat (x8/64))))/2^Int.toNat (x8%64):Nat):Int))] zn3 fun ac wd hS=>?_);refine hS.call0 120 #[vu (((flip (ws (Int.toNat (x8/64))))/2^Int.toNat (x8%64):Nat):Int)] 34 (bits_Tz ((flip (ws (Int.toNat (x8/64))))/2^Int.toNat (x8%64)) _ (hS.mem.get 0 1 (.fn 0 64 dbT)) (by first|exact(hfa (by omega)).1|exact pos_of_cast (by assumption)) (by first|exact(hfa (by omega)).1|exact pos_of_cast (by assumption))) fun ac wd hS=>?_;refine hS.opsC 2 [20,0] [3] fun _=>seg [(8,vi (x8+((tz ((flip (ws (Int.toNat (x8/64))))/2^Int.toNat (x8%64)):Nat):Int)))] zn3 [.p (fit .i64 (x8+((tz ((flip (ws (Int.toNat (x8/64))))/2^Int.toNat (x8%64)):Nat):Int)))] ⟨zf6 (by omega),tv⟩ fun ac wd hS=>?_;refine zlq ?_;refine hS.regS [0,0,200,0] [8] fun _=>seg [(39,vb (decide (((x8+((tz ((flip (ws (Int.toNat (x8/64))))/2^Int.toNat (x8%64)):Nat):Int)):Int)<(n:Int))))] [(0,none)] [.e (ν1 0)] tv fun ac wd hS=>?_;refine hS.condC (decide (((x8+((tz ((flip (ws (Int.toNat (x8/64))))/2^Int.toNat (x8%64)):Nat):Int)):Int)<(n:Int))) (fun hb4o hb4=>?_) (fun hb4o hb4=>?_)
    ·
     refine hS.regS [0,0,0] [] (sg [(6,vi (x8+((tz ((flip (ws (Int.toNat (x8/64))))/2^Int.toNat (x8%64)):Nat):Int))),(7,vb true)] [(0,none)] fun ac wd hS=>?_);refine wp_ret ?_;refine zpr ?_;refine zpr ?_;refine zpc ?_;refine zpr ?_;refine zpc ?_;refine zpr ?_;refine St.retC 0 hS (.tuple #[vi (x8+((tz ((flip (ws (Int.toNat (x8/64))))/2^Int.toNat (x8%64)):Nat):Int)),vb true]) [] tv fun hw=>?_;refine⟨retd (tuple2 (vint ?_) (vbool ?_)),hw.fr0⟩
     all_goals (first|exact(fst_yes (by obtain⟨q1,q2,q3⟩:=hfa (by omega);obtain⟨r1,r2,r3⟩:=q3 (by assumption);have:=r2 (by omega);omega) (by omega)).1|exact(fst_yes (y:=((nxt p v n (at0 f):Nat):Int)) rfl (by obtain⟨q1,q2,q3⟩:=hfa (by omega);obtain⟨r1,r2,r3⟩:=q3 (by assumption);have:=r2 (by omega);omega)).2|exact(fst_no (by have e_:=nxt_past (p:=p) (v:=v) (n:=n) (i:=Int.toNat x8) (by omega);rcases i1 with h|h<;>omega)).1|exact(fst_no (by have e_:=nxt_past (p:=p) (v:=v) (n:=n) (i:=Int.toNat x8) (by omega);rcases i1 with h|h<;>omega)).2|exact(fst_no (by obtain⟨q1,q2,q3⟩:=hfa (by omega);obtain⟨r1,r2,r3⟩:=q3 (by assumption);have:=r3 (by omega);omega)).1|exact(fst_no (by obtain⟨q1,q2,q3⟩:=hfa (by omega);obtain⟨r1,r2,r3⟩:=q3 (by assumption);have:=r3 (by omega);omega)).2)
    ·
     refine wp_skip ?_;refine zpt ?_;refine wp_exit ?_;refine zpe ?_;refine pop_block_miss rfl ?_;refine zpe ?_;refine zph ?_;refine zpt ?_;refine hS.regS [0,0] [] (sg [(6,vi 0),(7,vb false)] [(0,none)] fun ac wd hS=>?_);refine wp_ret ?_;refine St.retC 0 hS (.tuple #[vi 0,vb false]) [] tv fun hw=>?_;refine⟨retd (tuple2 (vint ?_) (vbool ?_)),hw.fr0⟩
     all_goals (first|exact(fst_yes (by obtain⟨q1,q2,q3⟩:=hfa (by omega);obtain⟨r1,r2,r3⟩:=q3 (by assumption);have:=r2 (by omega);omega) (by omega)).1|exact(fst_yes (y:=((nxt p v n (at0 f):Nat):Int)) rfl (by obtain⟨q1,q2,q3⟩:=hfa (by omega);obtain⟨r1,r2,r3⟩:=q3 (by assumption);have:=r2 (by omega);omega)).2|exact(fst_no (by have e_:=nxt_past (p:=p) (v:=v) (n:=n) (i:=Int.toNat x8) (by omega);rcases i1 with h|h<;>omega)).1|exact(fst_no (by have e_:=nxt_past (p:=p) (v:=v) (n:=n) (i:=Int.toNat x8) (by omega);rcases i1 with h|h<;>omega)).2|exact(fst_no (by obtain⟨q1,q2,q3⟩:=hfa (by omega);obtain⟨r1,r2,r3⟩:=q3 (by assumption);have:=r3 (by omega);omega)).1|exact(fst_no (by obtain⟨q1,q2,q3⟩:=hfa (by omega);obtain⟨r1,r2,r3⟩:=q3 (by assumption);have:=r3 (by omega);omega)).2)
   ·
    refine wp_skip ?_;refine zpt ?_;refine hS.regC [0,0,20,20,20,0] [2,3] fun _=>seg [(8,vi (x8+(64-(x8%64))))] zn3 [.p (fit .i64 (x8+(64-(x8%64)))),.p (fit .i64 (64-(x8%64))),.p ((64:Int)≠0∧Int.tmod x8 64=x8%64)] ⟨zf6 (by omega),zf6 (by omega),rem2 (by omega) (by omega),tv⟩ fun ac wd hS=>?_;refine zpb ?_;exact zpt (hS.next (x8+(64-(x8%64))) ⟨(by first|omega|assumption|(simp;done)|(simp;omega)),(by obtain⟨q1,q2,q3⟩:=hfa (by omega);have:=q2 (by assumption);omega),tv⟩ (by dsimp only;omega))
  ·
   have hwv:∀a,wv v a=a:=fun a=>by rw [hb2];rfl
   simp only [hwv]at hfa
   refine wp_skip ?_;refine zpt ?_;refine wp_seq ?_;refine hS.regS [0,0,20,fx 10 (vu (((ws (Int.toNat (x8/64)))/2^Int.toNat (x8%64):Nat):Int)),0] [2,3,8] fun _=>seg [(9,vu (((ws (Int.toNat (x8/64)))/2^Int.toNat (x8%64):Nat):Int))] zn3 [.p ((vu (Int.fdiv ((ws (Int.toNat (x8/64)):Nat):Int) (2^(min (Int.toNat (x8%64)) 64))):Value)=vu (((ws (Int.toNat (x8/64)))/2^Int.toNat (x8%64):Nat):Int)),.p (0≤(x8%64)),.p ((64:Int)≠0∧Int.tmod x8 64=x8%64)] ⟨(vint (shr_u (a:=ws (Int.toNat (x8/64))) (r:=(x8%64)) (by omega) (by omega))),by omega,rem2 (by omega) (by omega),tv⟩ fun ac wd hS=>?_;refine hS.regS [0,0] [2,3,8,9] (sg [(31,vb (((((ws (Int.toNat (x8/64)))/2^Int.toNat (x8%64):Nat):Int):Int)!=0))] zn3 fun ac wd hS=>?_);refine hS.condC (((((ws (Int.toNat (x8/64)))/2^Int.toNat (x8%64):Nat):Int):Int)!=0) (fun hb5o hb5=>?_) (fun hb5o hb5=>?_)
   ·
    refine wp_seq ?_;refine zwq ?_;refine hS.opsC 2 [0,0] [3,8] (sg [(32,vi x8),(33,vu (((ws (Int.toNat (x8/64)))/2^Int.toNat (x8%64):Nat):Int))] zn3 fun ac wd hS=>?_);refine hS.call0 120 #[vu (((ws (Int.toNat (x8/64)))/2^Int.toNat (x8%64):Nat):Int)] 34 (bits_Tz ((ws (Int.toNat (x8/64)))/2^Int.toNat (x8%64)) _ (hS.mem.get 0 1 (.fn 0 64 dbT)) (by first|exact(hfa (by omega)).1|exact pos_of_cast (by assumption)) (by first|exact(hfa (by omega)).1|exact pos_of_cast (by assumption))) fun ac wd hS=>?_;refine hS.opsC 2 [20,0] [3] fun _=>seg [(8,vi (x8+((tz ((ws (Int.toNat (x8/64)))/2^Int.toNat (x8%64)):Nat):Int)))] zn3 [.p (fit .i64 (x8+((tz ((ws (Int.toNat (x8/64)))/2^Int.toNat (x8%64)):Nat):Int)))] ⟨zf6 (by omega),tv⟩ fun ac wd hS=>?_;refine zlq ?_;refine hS.regS [0,0,200,0] [8] fun _=>seg [(39,vb (decide (((x8+((tz ((ws (Int.toNat (x8/64)))/2^Int.toNat (x8%64)):Nat):Int)):Int)<(n:Int))))] [(0,none)] [.e (ν1 0)] tv fun ac wd hS=>?_;refine hS.condC (decide (((x8+((tz ((ws (Int.toNat (x8/64)))/2^Int.toNat (x8%64)):Nat):Int)):Int)<(n:Int))) (fun hb6o hb6=>?_) (fun hb6o hb6=>?_)
    ·
     refine hS.regS [0,0,0] [] (sg [(6,vi (x8+((tz ((ws (Int.toNat (x8/64)))/2^Int.toNat (x8%64)):Nat):Int))),(7,vb true)] [(0,none)] fun ac wd hS=>?_);refine wp_ret ?_;refine zpr ?_;refine zpr ?_;refine zpc ?_;refine zpr ?_;refine zpc ?_;refine zpr ?_;refine St.retC 0 hS (.tuple #[vi (x8+((tz ((ws (Int.toNat (x8/64)))/2^Int.toNat (x8%64)):Nat):Int)),vb true]) [] tv fun hw=>?_;refine⟨retd (tuple2 (vint ?_) (vbool ?_)),hw.fr0⟩
     all_goals (first|exact(fst_yes (by obtain⟨q1,q2,q3⟩:=hfa (by omega);obtain⟨r1,r2,r3⟩:=q3 (by assumption);have:=r2 (by omega);omega) (by omega)).1|exact(fst_yes (y:=((nxt p v n (at0 f):Nat):Int)) rfl (by obtain⟨q1,q2,q3⟩:=hfa (by omega);obtain⟨r1,r2,r3⟩:=q3 (by assumption);have:=r2 (by omega);omega)).2|exact(fst_no (by have e_:=nxt_past (p:=p) (v:=v) (n:=n) (i:=Int.toNat x8) (by omega);rcases i1 with h|h<;>omega)).1|exact(fst_no (by have e_:=nxt_past (p:=p) (v:=v) (n:=n) (i:=Int.toNat x8) (by omega);rcases i1 with h|h<;>omega)).2|exact(fst_no (by obtain⟨q1,q2,q3⟩:=hfa (by omega);obtain⟨r1,r2,r3⟩:=q3 (by assumption);have:=r3 (by omega);omega)).1|exact(fst_no (by obtain⟨q1,q2,q3⟩:=hfa (by omega);obtain⟨r1,r2,r3⟩:=q3 (by assumption);have:=r3 (by omega);omega)).2)
    ·
     refine wp_skip ?_;refine zpt ?_;refine wp_exit ?_;refine zpe ?_;refine pop_block_miss rfl ?_;refine zpe ?_;refine zph ?_;refine zpt ?_;refine hS.regS [0,0] [] (sg [(6,vi 0),(7,vb false)] [(0,none)] fun ac wd hS=>?_);refine wp_ret ?_;refine St.retC 0 hS (.tuple #[vi 0,vb false]) [] tv fun hw=>?_;refine⟨retd (tuple2 (vint ?_) (vbool ?_)),hw.fr0⟩
     all_goals (first|exact(fst_yes (by obtain⟨q1,q2,q3⟩:=hfa (by omega);obtain⟨r1,r2,r3⟩:=q3 (by assumption);have:=r2 (by omega);omega) (by omega)).1|exact(fst_yes (y:=((nxt p v n (at0 f):Nat):Int)) rfl (by obtain⟨q1,q2,q3⟩:=hfa (by omega);obtain⟨r1,r2,r3⟩:=q3 (by assumption);have:=r2 (by omega);omega)).2|exact(fst_no (by have e_:=nxt_past (p:=p) (v:=v) (n:=n) (i:=Int.toNat x8) (by omega);rcases i1 with h|h<;>omega)).1|exact(fst_no (by have e_:=nxt_past (p:=p) (v:=v) (n:=n) (i:=Int.toNat x8) (by omega);rcases i1 with h|h<;>omega)).2|exact(fst_no (by obtain⟨q1,q2,q3⟩:=hfa (by omega);obtain⟨r1,r2,r3⟩:=q3 (by assumption);have:=r3 (by omega);omega)).1|exact(fst_no (by obtain⟨q1,q2,q3⟩:=hfa (by omega);obtain⟨r1,r2,r3⟩:=q3 (by assumption);have:=r3 (by omega);omega)).2)
   ·
    refine wp_skip ?_;refine zpt ?_;refine hS.regC [0,0,20,20,20,0] [2,3] fun _=>seg [(8,vi (x8+(64-(x8%64))))] zn3 [.p (fit .i64 (x8+(64-(x8%64)))),.p (fit .i64 (64-(x8%64))),.p ((64:Int)≠0∧Int.tmod x8 64=x8%64)] ⟨zf6 (by omega),zf6 (by omega),rem2 (by omega) (by omega),tv⟩ fun ac wd hS=>?_;refine zpb ?_;exact zpt (hS.next (x8+(64-(x8%64))) ⟨(by first|omega|assumption|(simp;done)|(simp;omega)),(by obtain⟨q1,q2,q3⟩:=hfa (by omega);have:=q2 (by assumption);omega),tv⟩ (by dsimp only;omega))
 ·
  refine wp_exit ?_;refine zpe ?_;refine zpe ?_;refine zph ?_;refine zpt ?_;refine hS.regS [0,0] [] (sg [(6,vi 0),(7,vb false)] [(0,none)] fun ac wd hS=>?_);refine wp_ret ?_;refine St.retC 0 hS (.tuple #[vi 0,vb false]) [] tv fun hw=>?_;refine⟨retd (tuple2 (vint ?_) (vbool ?_)),hw.fr0⟩
  all_goals (first|exact(fst_yes (by obtain⟨q1,q2,q3⟩:=hfa (by omega);obtain⟨r1,r2,r3⟩:=q3 (by assumption);have:=r2 (by omega);omega) (by omega)).1|exact(fst_yes (y:=((nxt p v n (at0 f):Nat):Int)) rfl (by obtain⟨q1,q2,q3⟩:=hfa (by omega);obtain⟨r1,r2,r3⟩:=q3 (by assumption);have:=r2 (by omega);omega)).2|exact(fst_no (by have e_:=nxt_past (p:=p) (v:=v) (n:=n) (i:=Int.toNat x8) (by omega);rcases i1 with h|h<;>omega)).1|exact(fst_no (by have e_:=nxt_past (p:=p) (v:=v) (n:=n) (i:=Int.toNat x8) (by omega);rcases i1 with h|h<;>omega)).2|exact(fst_no (by obtain⟨q1,q2,q3⟩:=hfa (by omega);obtain⟨r1,r2,r3⟩:=q3 (by assumption);have:=r3 (by omega);omega)).1|exact(fst_no (by obtain⟨q1,q2,q3⟩:=hfa (by omega);obtain⟨r1,r2,r3⟩:=q3 (by assumption);have:=r3 (by omega);omega)).2)
theorem bits_first (g:Nat)(o:Nat)(c:Nat)(nw:Nat)(ws:Nat→Nat)(n:Nat)(f:Int)(v:Bool)(p:Nat→Bool)(w:World)(hh0:HE.holds w 1 (.fn 0 64 dbT))(hh1:HE.holds w g (.fn o (o+nw) (u64s ws o)))(hW:Words ws nw n p)(hn:n≤1048576):
    Calls Tryz.prog 162 #[.agg #[vi (n:Int),sc g o nw c],vi f,vb v] w fun e w'=>e=.returned (vi (fst3 p n f v))∧Fr w w' no no:=by
 have hnw:=hW.many;have hsm:=hW.small;refine enter (args:=[.agg #[vi (n:Int),sc g o nw c],vi f,vb v]) (D:=no) (A:=[]) Tryz.func162 rfl 21 rfl [(1,.fn 0 64 dbT),(g,.fn o (o+nw) (u64s ws o))] (WS.startL ⟨⟨rfl,hh0⟩,⟨rfl,hh1⟩,trivial⟩) fun ac hS=>?_;refine hS.regS [0,0] [1,2] fun ν1=>seg [(3,pt (ν1 0) 0)] [(0,none),(1,none),(2,some ((ν1 0),.cells [vi (n:Int),sc g o nw c] 95))] [] tv fun ac wd hS=>?_;refine zwq ?_;refine hS.opsC 3 [200,0,0] [3] fun _=>seg [(10,.agg #[vi (n:Int),sc g o nw c]),(11,vi f),(12,vb v)] zn3 [.e (ν1 0),.e (ν1 0)] tv fun ac wd hS=>?_;refine hS.call0 157 #[.agg #[vi (n:Int),sc g o nw c],vi f,vb v] 13 (bits_First g o c nw ws n f v p _ (hS.mem.get 0 1 (.fn 0 64 dbT)) (hS.mem.get 1 g (.fn o (o+nw) (u64s ws o))) (by first|assumption|omega|(simp_all;done)|(simp_all;omega)) (by first|assumption|omega|(simp_all;done)|(simp_all;omega))) fun ac wd hS=>?_;refine hS.opsC 5 [0,0,0,0,0] [3] (sg [(7,vi (fst1 p n f v)),(8,vb (fst2 p n f v))] zn3 fun ac wd hS=>?_);refine zlq ?_;refine wp_seq ?_;refine hS.regS [0,0] [3,7] (sg [(17,vb (!(fst2 p n f v)))] zn3 fun ac wd hS=>?_);refine hS.condC (!(fst2 p n f v)) (fun hb1o hb1=>?_) (fun hb1o hb1=>?_)
 ·
  refine hS.regS [0,200,0] [] fun _=>seg [(6,vi (n:Int))] [(0,none)] [.e (ν1 0)] tv fun ac wd hS=>?_;refine wp_ret ?_;refine zpr ?_;refine St.retC 0 hS (vi (n:Int)) [] tv fun hw=>?_;refine⟨retd (vint ?_),hw.fr0⟩
  all_goals (first|(rw [fst3_eq];simp_all;done))
 ·
  refine wp_skip ?_;refine zpt ?_;refine hS.regS [0,0] [] (sg [(6,vi (fst1 p n f v))] [(0,none)] fun ac wd hS=>?_);refine wp_ret ?_;refine St.retC 0 hS (vi (fst1 p n f v)) [] tv fun hw=>?_;refine⟨retd (vint ?_),hw.fr0⟩
  all_goals (first|(rw [fst3_eq];simp_all;done))
theorem bits_with1 (a:Nat)(m:Nat)(w:World)(ha:a<2^64)(hm:m<2^64):
    Calls Tryz.prog 134 #[vu (a:Int),vu (m:Int)] w fun e w'=>e=.returned (vu ((tOp true a m:Nat):Int))∧w'=w:=by
 refine enter (args:=[vu (a:Int),vu (m:Int)]) (D:=no) (A:=[]) Tryz.func134 rfl 8 rfl [] (WS.startL trivial) fun ac hS=>?_;refine hS.stillS [0] [0,1]<|seg [] [] [] tv fun ac hS=>?_;refine hS.stillS [0,0,20,0] []<|seg [(4,vu ((a|||m:Nat):Int))] [] [.p (bitRaw .or .u64 (a:Int) (m:Int)=((a|||m:Nat):Int))] ⟨ior_u (a:=a) (b:=m) (by omega) (by omega),tv⟩ fun ac hS=>?_;refine wp_ret ?_;refine St.retC 0 hS (vu ((a|||m:Nat):Int)) [] tv fun hw=>?_;refine⟨retd (vint ?_),rfl⟩
 all_goals (first|rfl|assumption|(simp;done)|(simp;omega)|omega|(simp_all;done)|(simp_all;omega))
theorem bits_without1 (a:Nat)(m:Nat)(w:World)(ha:a<2^64)(hm:m<2^64):
    Calls Tryz.prog 141 #[vu (a:Int),vu (m:Int)] w fun e w'=>e=.returned (vu ((tOp false a m:Nat):Int))∧w'=w:=by
 refine enter (args:=[vu (a:Int),vu (m:Int)]) (D:=no) (A:=[]) Tryz.func141 rfl 8 rfl [] (WS.startL trivial) fun ac hS=>?_;refine hS.stillS [0] [0,1]<|seg [] [] [] tv fun ac hS=>?_;refine hS.stillS [0,0,fx 0 (vu ((without a m:Nat):Int)),0] []<|seg [(4,vu ((without a m:Nat):Int))] [] [.p ((vu (iandNot .u64 (a:Int) (m:Int)):Value)=vu ((without a m:Nat):Int))] ⟨(vint (iandNot_u a m)),tv⟩ fun ac hS=>?_;refine wp_ret ?_;refine St.retC 0 hS (vu ((without a m:Nat):Int)) [] tv fun hw=>?_;refine⟨retd (vint ?_),rfl⟩
 all_goals (first|rfl|assumption|(simp;done)|(simp;omega)|omega|(simp_all;done)|(simp_all;omega))
theorem slices_CloneW (g:Nat)(o:Nat)(c:Nat)(nw:Nat)(ws:Nat→Nat)(p:Nat→Bool)(w:World)(hh0:HE.holds w g (.fn o (o+nw) (u64s ws o)))(hb:nw≤16384):
    Calls Tryz.prog 146 #[sc g o nw c] w fun e w'=>∃(g2:Nat) (c2:Nat) (tot2:Nat),e=.returned (sc g2 0 nw c2)∧w.heap.size≤g2∧HE.holds w' g2 (.row 62 nw tot2 (u64s ws 0))∧Fr w w' no no:=by
 refine enter (args:=[sc g o nw c]) (D:=no) (A:=[]) Tryz.func146 rfl 8 rfl [(g,.fn o (o+nw) (u64s ws o))] (WS.startL ⟨⟨rfl,hh0⟩,trivial⟩) fun ac hS=>?_;refine hS.regS [0] [0] (sg [] [(0,none)] fun ac wd hS=>?_);refine wp_seq ?_;refine hS.regS [0,0] [0] (sg [(4,vb false)] [(0,none)] fun ac wd hS=>?_);refine hS.condF ?_;refine wp_skip ?_;refine zpt ?_;refine zwq ?_;refine hS.opsC 2 [0,0] [] fun ν3=>seg [(5,sc (ν3 0) 0 0 0),(6,sc g o nw c)] [(0,none),(1,some ((ν3 0),.cells [] 62))] [] tv fun ac wd hS=>?_;obtain⟨i_,hi_,hz_,hs_,hb_⟩:=info_get (P:=Tryz.prog) (e:=62) (z:=vu 0) (s:=1) (b:=8) (by kernel_rfl);refine St.clone hS (.tmp 5) (.tmp 6) 93 rfl rfl (by as_aux_lemma=>kernel_rfl) Tryz.underlying93 hi_ hz_ hs_ (by omega) (f':=u64s ws 0) (b:=(ν3 0)) (g:=g) (off:=o) (nw:=nw) (cp:=c) (f:=(u64s ws o)) 1 0 (by as_aux_lemma=>kernel_rfl) (by as_aux_lemma=>kernel_rfl) (by as_aux_lemma=>kernel_rfl) (by as_aux_lemma=>kernel_rfl) (by omega) (fun j _=>by unfold u64s;rw [Nat.add_sub_cancel_left,Nat.sub_zero]) [0] (H':=[(g,.fn o (o+nw) (u64s ws o))]) (by as_aux_lemma=>kernel_rfl) (by decide) (by decide) rfl (by decide) fun g1 c2 t3 wd ac hm4 hc_ hS=>?_;refine hS.opsC 1 [0] [] (sg [(2,sc g1 0 nw c2)] [(1,none)] fun ac wd hS=>?_);refine zlq ?_;refine wp_ret ?_;refine St.retC 0 hS (sc g1 0 nw c2) [] tv fun hw=>?_;refine⟨g1,c2,t3,retd rfl,((hw.getm 0 g1 (.row 62 nw t3 (u64s ws 0))).resolve_right (fun h=>h)),(hw.get 0 g1 (.row 62 nw t3 (u64s ws 0))),hw.fr0⟩
theorem bits_turn_with (g:Nat)(o:Nat)(c:Nat)(nw:Nat)(ws:Nat→Nat)(n:Nat)(f:Int)(k:Int)(p:Nat→Bool)(w:World)(hh0:HE.holds w g (.fn o (o+nw) (u64s ws o)))(hW:Words ws nw n p)(hn:n≤1048576):
    Calls Tryz.prog 133 #[.agg #[vi (n:Int),sc g o nw c],vi f,vi k,.func (.func 134) #[] #[]] w fun e w'=>∃(g2:Nat) (o2:Nat) (c2:Nat) (ws2:Nat→Nat),e=.returned (.tuple #[.agg #[vi (n:Int),sc g2 o2 nw c2],vi (trnE n f k)])∧Words ws2 nw n (trn p n f k true)∧(g2=g∨w.heap.size≤g2)∧HE.holds w' g2 (.fn o2 (o2+nw) (u64s ws2 o2))∧Fr w w' no no:=by
 have hnw:=hW.many;have hsm:=hW.small;refine enter (args:=[.agg #[vi (n:Int),sc g o nw c],vi f,vi k,.func (.func 134) #[] #[]]) (D:=no) (A:=[]) Tryz.func133 rfl 51 rfl [(g,.fn o (o+nw) (u64s ws o))] (WS.startL ⟨⟨rfl,hh0⟩,trivial⟩) fun ac hS=>?_;refine hS.regS [0,0,0] [1,2,3] fun ν1=>seg [(4,pt (ν1 0) 0),(8,pt (ν1 1) 0)] [(0,none),(1,some ((ν1 0),.cells [vi (n:Int),sc g o nw c] 95)),(2,some ((ν1 1),.cells [vi 0,vnil] 95))] [] tv fun ac wd hS=>?_;refine wp_seq ?_;refine zwq ?_;refine hS.opsC 3 [100,0,0] [1,2,3,4,8] fun _=>seg [(12,.agg #[vi (n:Int),sc g o nw c]),(13,vi f),(14,vi k)] zn3 [.e (ν1 0),.e (ν1 0)] tv fun ac wd hS=>?_;refine hS.call0 125 #[.agg #[vi (n:Int),sc g o nw c],vi f,vi k] 15 (bits_within g o c nw n f k _ (by first|assumption|omega|(simp_all;done)|(simp_all;omega))) fun ac wd hS=>?_;refine hS.opsC 1 [0] [1,2,3,4,8] (sg [(16,vb (!(wth n f k)))] zn3 fun ac wd hS=>?_);refine zlq ?_;refine hS.condC (!(wth n f k)) (fun hb1o hb1=>?_) (fun hb1o hb1=>?_)
 ·
  refine hS.regS [100,200,0] [8] fun _=>seg [(9,vi 3)] [(0,none),(2,some ((ν1 1),.cells [vi (n:Int),sc g o nw c] 95))] [.e (ν1 1),.e (ν1 1),.e (ν1 0),.e (ν1 0)] tv fun ac wd hS=>?_;refine wp_ret ?_;refine zpr ?_;refine St.retC 1 hS (.tuple #[.agg #[vi (n:Int),sc g o nw c],vi 3]) [.e (ν1 1),.e (ν1 1)] tv fun hw=>?_;refine⟨g,o,c,ws,retd (tuple2 rfl (vint ?_)),?_,(.inl rfl),(hw.get 0 g (.fn o (o+nw) (u64s ws o))),hw.fr0⟩
  all_goals (first|rfl|exact trnE_no (by assumption)|exact trnE_yes (by assumption)|(rw [trn_no (by assumption)];exact hW)|(rw [trn_yes (by assumption),show k.toNat=(x1-f).toNat by omega];exact i1))
 ·
  have hwt:wth n f k=true:=by simpa using hb1o
  obtain⟨hw0,hw1,hw2⟩:=wth_facts hwt;refine wp_skip ?_;refine zpt ?_;refine zwq ?_;refine hS.opsC 2 [0,100] [1,2,3,4,8] fun _=>seg [(19,sc g o nw c)] zn3 [.e (ν1 0)] tv fun ac wd hS=>?_;refine hS.callC 146 #[sc g o nw c] (slices_CloneW g o c nw ws p _ (hS.mem.get 0 g (.fn o (o+nw) (u64s ws o))) (by first|assumption|omega|(simp_all;done)|(simp_all;omega))) ?_;rintro _ wd ⟨g22,c23,tot24,rfl,hog0,hoh0,hF⟩;have ho5:w.heap.size≤g22:=Nat.le_trans hS.mem.fr.size hog0;refine⟨sc g22 0 nw c23,rfl,?_⟩;replace hS:=(hS.to (hS.mem.outR hF hog0 hoh0)).put (d:=20) (v:=sc g22 0 nw c23) (by decide);clear hF;refine hS.opsC 2 [0,100] [1,2,3,4,8] fun _=>seg [] [(1,some ((ν1 0),.cells [vi (n:Int),sc g22 0 nw c23] 95)),(2,none),(3,none)] [.e (ν1 0)] tv fun ac wd hS=>?_;refine zlq ?_;refine wp_seq ?_;refine wp_block ?_;refine St.loopC (σ:=Int×Int×(Nat→Nat)) (fun(x:Int×Int×(Nat→Nat))=>match x with|(x1,x2,wsx)=>⟨[(1,[],vi x1),(2,[],vi x2),(3,[],.func (.func 134) #[] #[]),(4,[],pt (ν1 0) 0),(8,[],pt (ν1 1) 0)],[((ν1 0),.cells [vi (n:Int),sc g22 0 nw c23] 95),((ν1 1),.cells [vi 0,vnil] 95),(g22,.row 62 nw tot24 (u64s wsx 0))],[],(f≤x1∧0≤x2∧x1+x2=f+k)∧(Words wsx nw n (setR p f.toNat (x1-f).toNat true))∧True,Int.toNat x2⟩) (f,k,ws) ⟨(by first|omega|(rw [show(f-f).toNat=0 by omega,setR_zero];exact hW)),(by first|omega|(rw [show(f-f).toNat=0 by omega,setR_zero];exact hW)),trivial⟩ hS ?_;clear hS;rintro⟨x1,x2,wsx⟩ ⟨i0,i1,-⟩ ac wd hS;replace i0:f≤x1∧0≤x2∧x1+x2=f+k:=i0;replace i1:Words wsx nw n (setR p f.toNat (x1-f).toNat true):=i1;have him:0<x2→1≤imin x2 (64-(x1%64))∧imin x2 (64-(x1%64))≤64-(x1%64)∧imin x2 (64-(x1%64))≤x2:=fun h=>by unfold imin;split<;>omega
  refine wp_seq ?_;refine hS.regS [0,0] [1,2,3,4,8] (sg [(23,vb (decide ((0:Int)<x2)))] zn3 fun ac wd hS=>?_);refine hS.condC (decide ((0:Int)<x2)) (fun hb6o hb6=>?_) (fun hb6o hb6=>?_)
  ·
   refine wp_skip ?_;refine zpt ?_;refine wp_block ?_;refine zwq ?_;refine hS.opsC 2 [0,0] [1,2,3,4,8] (sg [(25,vi x1),(26,vi x2)] zn3 fun ac wd hS=>?_);refine hS.call0 126 #[vi x1,vi x2] 27 (bits_mask x1 x2 _ (by first|assumption|omega|(simp_all;done)|(simp_all;omega)) (by first|assumption|omega|(simp_all;done)|(simp_all;omega))) fun ac wd hS=>?_;refine hS.opsC 5 [0,0,0,0,0] [1,2,3,4,8] (sg [(10,vu ((mkM (x1%64).toNat (imin x2 (64-x1%64)).toNat:Nat):Int)),(11,vi (imin x2 (64-x1%64)))] zn3 fun ac wd hS=>?_);refine zlq ?_;refine St.ordBeginS [(0,1),(1,1),(2,1),(3,1),(4,1),(5,1),(6,1),(7,1),(8,1),(9,1),(10,1),(11,1),(12,0),(13,1),(14,2)] [((ν1 0),.cells [vi (n:Int),sc g22 0 nw c23] 95),((ν1 1),.cells [vi 0,vnil] 95),(g22,.row 62 nw tot24 (u64s wsx 0))] [0,1,2] hS fun wd hS=>?_;have hap:=hS.mem.pairs (Hf:=[((ν1 0),.cells [vi (n:Int),sc g22 0 nw c23] 95),((ν1 1),.cells [vi 0,vnil] 95),(g22,.row 62 nw tot24 (u64s wsx 0))]) (l:=[0,1,2]);refine St.ordF [0,0,0,20,0,0,0,0,20,10,fx 200 (vu ((wsx (Int.toNat (x1/64)):Nat):Int)),0] [0,1,2,3,4,5,6,7,8,9,10,11] [1,2,3,4,8,11] (rest:=[(12,0),(13,1),(14,2)]) hS hap<|segF [(31,sc g22 0 nw c23),(33,vi (x1/64)),(34,.func (.func 134) #[] #[]),(40,vu ((wsx (Int.toNat (x1/64)):Nat):Int)),(41,vu ((mkM (x1%64).toNat (imin x2 (64-x1%64)).toNat:Nat):Int))] [.p ((((u64s wsx 0) (Int.toNat (x1/64))):Value)=vu ((wsx (Int.toNat (x1/64)):Nat):Int)),.e g22,.p (Int.toNat (x1/64)<nw),.p ((0:Int)≤(x1/64)∧((x1/64):Int)<(nw:Int)),.p ((64:Int)≠0∧IntKind.i64.wrap (Int.tdiv x1 64)=x1/64),.e (ν1 0),.p ((64:Int)≠0∧IntKind.i64.wrap (Int.tdiv x1 64)=x1/64),.e (ν1 0)] ⟨(u64s_abs wsx (Int.toNat (x1/64))),(by omega),(by omega),quo2 (by omega) (by omega) (by omega),quo2 (by omega) (by omega) (by omega),tv⟩ fun ac hS=>?_;refine hS.ordC 12 134 #[vu ((wsx (Int.toNat (x1/64)):Nat):Int),vu ((mkM (x1%64).toNat (imin x2 (64-x1%64)).toNat:Nat):Int)] (bits_with1 (wsx (Int.toNat (x1/64))) (mkM (x1%64).toNat (imin x2 (64-x1%64)).toNat) _ (by first|exact i1.small _ (by rw [i1.many];omega)|exact mkM_lt (by omega)) (by first|exact i1.small _ (by rw [i1.many];omega)|exact mkM_lt (by omega))) ?_;rintro _ wd ⟨rfl,hF⟩;refine⟨vu ((tOp true (wsx (Int.toNat (x1/64))) (mkM (x1%64).toNat (imin x2 (64-x1%64)).toNat):Nat):Int),rfl,?_⟩;replace hS:=(hS.to (hF▸hS.mem)).put (d:=42) (v:=vu ((tOp true (wsx (Int.toNat (x1/64))) (mkM (x1%64).toNat (imin x2 (64-x1%64)).toNat):Nat):Int)) (by decide);clear hF;refine hS.ordV (l:=[0,1,2]) ?_;refine St.ordF [10] [13] [1,2,3,4,8,11,42] (rest:=[(14,2)]) hS hap<|segF [(43,pt g22 (Int.toNat (x1/64)))] [.p ((0:Int)≤(x1/64)∧((x1/64):Int)<(nw:Int))] ⟨(by omega),tv⟩ fun ac hS=>?_;refine St.ord2 14 [200] [1,2,3,4,8,11] hS rfl fun _=>seg [] [(0,none),(1,none),(2,some (g22,.row 62 nw tot24 (fun x=>if x=Int.toNat (x1/64)then vu ((tOp true (wsx (Int.toNat (x1/64))) (mkM (x1%64).toNat (imin x2 (64-x1%64)).toNat):Nat):Int)else(u64s wsx 0) x)))] [.e g22,.p (Int.toNat (x1/64)<nw)] ⟨(by omega),tv⟩ fun ac wd hS=>?_;replace hS:=hS.to (hS.mem.tellR 2 (b:=g22) (e:=62) (m:=nw) (tot:=tot24) (f:=(fun x=>if x=Int.toNat (x1/64)then vu ((tOp true (wsx (Int.toNat (x1/64))) (mkM (x1%64).toNat (imin x2 (64-x1%64)).toNat):Nat):Int)else(u64s wsx 0) x)) (u64s (putW wsx (Int.toNat (x1/64)) (tOp true (wsx (Int.toNat (x1/64))) (mkM (x1%64).toNat (imin x2 (64-x1%64)).toNat))) 0) (fun o ho=>u64s_putv wsx (Int.toNat (x1/64)) (tOp true (wsx (Int.toNat (x1/64))) (mkM (x1%64).toNat (imin x2 (64-x1%64)).toNat)) o));refine zon ?_;refine hS.regC [0,0,20,0,0,20,0,0] [3,4,8] fun _=>seg [(1,vi (x1+(imin x2 (64-x1%64)))),(2,vi (x2-(imin x2 (64-x1%64))))] zn3 [.p (fit .i64 (x2-(imin x2 (64-x1%64)))),.p (fit .i64 (x1+(imin x2 (64-x1%64))))] ⟨zf6 (by omega),zf6 (by omega),tv⟩ fun ac wd hS=>?_;refine zpb ?_;exact zpt (hS.next ((x1+(imin x2 (64-x1%64))),(x2-(imin x2 (64-x1%64))),(putW wsx (Int.toNat (x1/64)) (tOp true (wsx (Int.toNat (x1/64))) (mkM (x1%64).toNat (imin x2 (64-x1%64)).toNat)))) ⟨(by first|omega|assumption|(simp;done)|(simp;omega)),(by exact i1.turnI (m:=imin x2 (64-(x1%64))) hw0 (by omega) (by omega) (by omega) (by omega)),tv⟩ (by dsimp only;omega))
  ·
   refine wp_exit ?_;refine zpe ?_;refine zpe ?_;refine zph ?_;refine zpt ?_;refine hS.regS [0,100,0] [8] fun _=>seg [(9,vi 0)] [(1,some ((ν1 1),.cells [vi (n:Int),sc g22 0 nw c23] 95)),(2,none)] [.e (ν1 1),.e (ν1 1),.e (ν1 0),.e (ν1 0)] tv fun ac wd hS=>?_;refine wp_ret ?_;refine St.retC 0 hS (.tuple #[.agg #[vi (n:Int),sc g22 0 nw c23],vi 0]) [.e (ν1 1),.e (ν1 1)] tv fun hw=>?_;refine⟨g22,0,c23,wsx,retd (tuple2 rfl (vint ?_)),?_,(.inr ((hw.getm 1 g22 (.row 62 nw tot24 (u64s wsx 0))).resolve_right (fun h=>h))),(HE.fn_hi (by omega) (HE.of_row (hw.get 1 g22 (.row 62 nw tot24 (u64s wsx 0))) (fun _ _=>rfl))),hw.fr0⟩
   all_goals (first|rfl|exact trnE_no (by assumption)|exact trnE_yes (by assumption)|(rw [trn_no (by assumption)];exact hW)|(rw [trn_yes (by assumption),show k.toNat=(x1-f).toNat by omega];exact i1))
theorem bits_With (g:Nat)(o:Nat)(c:Nat)(nw:Nat)(ws:Nat→Nat)(n:Nat)(f:Int)(k:Int)(p:Nat→Bool)(w:World)(hh0:HE.holds w g (.fn o (o+nw) (u64s ws o)))(hW:Words ws nw n p)(hn:n≤1048576):
    Calls Tryz.prog 103 #[.agg #[vi (n:Int),sc g o nw c],vi f,vi k] w fun e w'=>∃(g2:Nat) (o2:Nat) (c2:Nat) (ws2:Nat→Nat),e=.returned (.tuple #[.agg #[vi (n:Int),sc g2 o2 nw c2],vi (trnE n f k)])∧Words ws2 nw n (trn p n f k true)∧(g2=g∨w.heap.size≤g2)∧HE.holds w' g2 (.fn o2 (o2+nw) (u64s ws2 o2))∧Fr w w' no no:=by
 refine enter (args:=[.agg #[vi (n:Int),sc g o nw c],vi f,vi k]) (D:=no) (A:=[]) Tryz.func103 rfl 14 rfl [(g,.fn o (o+nw) (u64s ws o))] (WS.startL ⟨⟨rfl,hh0⟩,trivial⟩) fun ac hS=>?_;refine hS.regS [0,0,0] [1,2] fun ν1=>seg [(3,pt (ν1 0) 0),(6,pt (ν1 1) 0)] [(0,none),(1,some ((ν1 0),.cells [vi (n:Int),sc g o nw c] 95)),(2,some ((ν1 1),.cells [vi 0,vnil] 95))] [] tv fun ac wd hS=>?_;refine zwq ?_;refine hS.opsC 3 [100,0,0] [6] fun _=>seg [(8,.agg #[vi (n:Int),sc g o nw c]),(9,vi f),(10,vi k)] [(0,none),(2,none)] [.e (ν1 0),.e (ν1 0)] tv fun ac wd hS=>?_;refine hS.callC 133 #[.agg #[vi (n:Int),sc g o nw c],vi f,vi k,.func (.func 134) #[] #[]] (bits_turn_with g o c nw ws n f k p _ (hS.mem.get 0 g (.fn o (o+nw) (u64s ws o))) (by first|assumption|omega|(simp_all;done)|(simp_all;omega)) (by first|assumption|omega|(simp_all;done)|(simp_all;omega))) ?_;rintro _ wd ⟨g21,o22,c23,ws24,rfl,hW25,hog0,hoh0,hF⟩;have ho6:g21=g∨w.heap.size≤g21:=by rcases hog0 with hx|hx;rw [hx];exact(.inl rfl);exact .inr (Nat.le_trans hS.mem.fr.size hx)
 refine⟨.tuple #[.agg #[vi (n:Int),sc g21 o22 nw c23],vi (trnE n f k)],rfl,?_⟩;replace hS:=(hS.to (hS.mem.outs hF [(g21,.fn o22 (o22+nw) (u64s ws24 o22))] ⟨⟨rfl,hoh0,hog0.imp (fun e=>⟨0,.fn o (o+nw) (u64s ws o),by rw [e];rfl,rfl⟩) id⟩,trivial⟩)).put (d:=11) (v:=.tuple #[.agg #[vi (n:Int),sc g21 o22 nw c23],vi (trnE n f k)]) (by decide);clear hF;refine hS.opsC 4 [0,0,100,0] [6] fun _=>seg [(7,vi (trnE n f k))] [(1,some ((ν1 1),.cells [vi (n:Int),sc g21 o22 nw c23] 95)),(2,none)] [.e (ν1 1),.e (ν1 1)] tv fun ac wd hS=>?_;refine zlq ?_;refine wp_ret ?_;refine St.retC 0 hS (.tuple #[.agg #[vi (n:Int),sc g21 o22 nw c23],vi (trnE n f k)]) [.e (ν1 1),.e (ν1 1)] tv fun hw=>?_;refine⟨g21,o22,c23,ws24,retd rfl,?_,ho6,(hw.get 1 g21 (.fn o22 (o22+nw) (u64s ws24 o22))),hw.fr0⟩
 all_goals (first|rfl|assumption)
theorem bits_turn_without (g:Nat)(o:Nat)(c:Nat)(nw:Nat)(ws:Nat→Nat)(n:Nat)(f:Int)(k:Int)(p:Nat→Bool)(w:World)(hh0:HE.holds w g (.fn o (o+nw) (u64s ws o)))(hW:Words ws nw n p)(hn:n≤1048576):
    Calls Tryz.prog 133 #[.agg #[vi (n:Int),sc g o nw c],vi f,vi k,.func (.func 141) #[] #[]] w fun e w'=>∃(g2:Nat) (o2:Nat) (c2:Nat) (ws2:Nat→Nat),e=.returned (.tuple #[.agg #[vi (n:Int),sc g2 o2 nw c2],vi (trnE n f k)])∧Words ws2 nw n (trn p n f k false)∧(g2=g∨w.heap.size≤g2)∧HE.holds w' g2 (.fn o2 (o2+nw) (u64s ws2 o2))∧Fr w w' no no:=by
 have hnw:=hW.many;have hsm:=hW.small;refine enter (args:=[.agg #[vi (n:Int),sc g o nw c],vi f,vi k,.func (.func 141) #[] #[]]) (D:=no) (A:=[]) Tryz.func133 rfl 51 rfl [(g,.fn o (o+nw) (u64s ws o))] (WS.startL ⟨⟨rfl,hh0⟩,trivial⟩) fun ac hS=>?_;refine hS.regS [0,0,0] [1,2,3] fun ν1=>seg [(4,pt (ν1 0) 0),(8,pt (ν1 1) 0)] [(0,none),(1,some ((ν1 0),.cells [vi (n:Int),sc g o nw c] 95)),(2,some ((ν1 1),.cells [vi 0,vnil] 95))] [] tv fun ac wd hS=>?_;refine wp_seq ?_;refine zwq ?_;refine hS.opsC 3 [100,0,0] [1,2,3,4,8] fun _=>seg [(12,.agg #[vi (n:Int),sc g o nw c]),(13,vi f),(14,vi k)] zn3 [.e (ν1 0),.e (ν1 0)] tv fun ac wd hS=>?_;refine hS.call0 125 #[.agg #[vi (n:Int),sc g o nw c],vi f,vi k] 15 (bits_within g o c nw n f k _ (by first|assumption|omega|(simp_all;done)|(simp_all;omega))) fun ac wd hS=>?_;refine hS.opsC 1 [0] [1,2,3,4,8] (sg [(16,vb (!(wth n f k)))] zn3 fun ac wd hS=>?_);refine zlq ?_;refine hS.condC (!(wth n f k)) (fun hb1o hb1=>?_) (fun hb1o hb1=>?_)
 ·
  refine hS.regS [100,200,0] [8] fun _=>seg [(9,vi 3)] [(0,none),(2,some ((ν1 1),.cells [vi (n:Int),sc g o nw c] 95))] [.e (ν1 1),.e (ν1 1),.e (ν1 0),.e (ν1 0)] tv fun ac wd hS=>?_;refine wp_ret ?_;refine zpr ?_;refine St.retC 1 hS (.tuple #[.agg #[vi (n:Int),sc g o nw c],vi 3]) [.e (ν1 1),.e (ν1 1)] tv fun hw=>?_;refine⟨g,o,c,ws,retd (tuple2 rfl (vint ?_)),?_,(.inl rfl),(hw.get 0 g (.fn o (o+nw) (u64s ws o))),hw.fr0⟩
  all_goals (first|rfl|exact trnE_no (by assumption)|exact trnE_yes (by assumption)|(rw [trn_no (by assumption)];exact hW)|(rw [trn_yes (by assumption),show k.toNat=(x1-f).toNat by omega];exact i1))
 ·
  have hwt:wth n f k=true:=by simpa using hb1o
  obtain⟨hw0,hw1,hw2⟩:=wth_facts hwt;refine wp_skip ?_;refine zpt ?_;refine zwq ?_;refine hS.opsC 2 [0,100] [1,2,3,4,8] fun _=>seg [(19,sc g o nw c)] zn3 [.e (ν1 0)] tv fun ac wd hS=>?_;refine hS.callC 146 #[sc g o nw c] (slices_CloneW g o c nw ws p _ (hS.mem.get 0 g (.fn o (o+nw) (u64s ws o))) (by first|assumption|omega|(simp_all;done)|(simp_all;omega))) ?_;rintro _ wd ⟨g22,c23,tot24,rfl,hog0,hoh0,hF⟩;have ho5:w.heap.size≤g22:=Nat.le_trans hS.mem.fr.size hog0;refine⟨sc g22 0 nw c23,rfl,?_⟩;replace hS:=(hS.to (hS.mem.outR hF hog0 hoh0)).put (d:=20) (v:=sc g22 0 nw c23) (by decide);clear hF;refine hS.opsC 2 [0,100] [1,2,3,4,8] fun _=>seg [] [(1,some ((ν1 0),.cells [vi (n:Int),sc g22 0 nw c23] 95)),(2,none),(3,none)] [.e (ν1 0)] tv fun ac wd hS=>?_;refine zlq ?_;refine wp_seq ?_;refine wp_block ?_;refine St.loopC (σ:=Int×Int×(Nat→Nat)) (fun(x:Int×Int×(Nat→Nat))=>match x with|(x1,x2,wsx)=>⟨[(1,[],vi x1),(2,[],vi x2),(3,[],.func (.func 141) #[] #[]),(4,[],pt (ν1 0) 0),(8,[],pt (ν1 1) 0)],[((ν1 0),.cells [vi (n:Int),sc g22 0 nw c23] 95),((ν1 1),.cells [vi 0,vnil] 95),(g22,.row 62 nw tot24 (u64s wsx 0))],[],(f≤x1∧0≤x2∧x1+x2=f+k)∧(Words wsx nw n (setR p f.toNat (x1-f).toNat false))∧True,Int.toNat x2⟩) (f,k,ws) ⟨(by first|omega|(rw [show(f-f).toNat=0 by omega,setR_zero];exact hW)),(by first|omega|(rw [show(f-f).toNat=0 by omega,setR_zero];exact hW)),trivial⟩ hS ?_;clear hS;rintro⟨x1,x2,wsx⟩ ⟨i0,i1,-⟩ ac wd hS;replace i0:f≤x1∧0≤x2∧x1+x2=f+k:=i0;replace i1:Words wsx nw n (setR p f.toNat (x1-f).toNat false):=i1;have him:0<x2→1≤imin x2 (64-(x1%64))∧imin x2 (64-(x1%64))≤64-(x1%64)∧imin x2 (64-(x1%64))≤x2:=fun h=>by unfold imin;split<;>omega
  refine wp_seq ?_;refine hS.regS [0,0] [1,2,3,4,8] (sg [(23,vb (decide ((0:Int)<x2)))] zn3 fun ac wd hS=>?_);refine hS.condC (decide ((0:Int)<x2)) (fun hb6o hb6=>?_) (fun hb6o hb6=>?_)
  ·
   refine wp_skip ?_;refine zpt ?_;refine wp_block ?_;refine zwq ?_;refine hS.opsC 2 [0,0] [1,2,3,4,8] (sg [(25,vi x1),(26,vi x2)] zn3 fun ac wd hS=>?_);refine hS.call0 126 #[vi x1,vi x2] 27 (bits_mask x1 x2 _ (by first|assumption|omega|(simp_all;done)|(simp_all;omega)) (by first|assumption|omega|(simp_all;done)|(simp_all;omega))) fun ac wd hS=>?_;refine hS.opsC 5 [0,0,0,0,0] [1,2,3,4,8] (sg [(10,vu ((mkM (x1%64).toNat (imin x2 (64-x1%64)).toNat:Nat):Int)),(11,vi (imin x2 (64-x1%64)))] zn3 fun ac wd hS=>?_);refine zlq ?_;refine St.ordBeginS [(0,1),(1,1),(2,1),(3,1),(4,1),(5,1),(6,1),(7,1),(8,1),(9,1),(10,1),(11,1),(12,0),(13,1),(14,2)] [((ν1 0),.cells [vi (n:Int),sc g22 0 nw c23] 95),((ν1 1),.cells [vi 0,vnil] 95),(g22,.row 62 nw tot24 (u64s wsx 0))] [0,1,2] hS fun wd hS=>?_;have hap:=hS.mem.pairs (Hf:=[((ν1 0),.cells [vi (n:Int),sc g22 0 nw c23] 95),((ν1 1),.cells [vi 0,vnil] 95),(g22,.row 62 nw tot24 (u64s wsx 0))]) (l:=[0,1,2]);refine St.ordF [0,0,0,20,0,0,0,0,20,10,fx 200 (vu ((wsx (Int.toNat (x1/64)):Nat):Int)),0] [0,1,2,3,4,5,6,7,8,9,10,11] [1,2,3,4,8,11] (rest:=[(12,0),(13,1),(14,2)]) hS hap<|segF [(31,sc g22 0 nw c23),(33,vi (x1/64)),(34,.func (.func 141) #[] #[]),(40,vu ((wsx (Int.toNat (x1/64)):Nat):Int)),(41,vu ((mkM (x1%64).toNat (imin x2 (64-x1%64)).toNat:Nat):Int))] [.p ((((u64s wsx 0) (Int.toNat (x1/64))):Value)=vu ((wsx (Int.toNat (x1/64)):Nat):Int)),.e g22,.p (Int.toNat (x1/64)<nw),.p ((0:Int)≤(x1/64)∧((x1/64):Int)<(nw:Int)),.p ((64:Int)≠0∧IntKind.i64.wrap (Int.tdiv x1 64)=x1/64),.e (ν1 0),.p ((64:Int)≠0∧IntKind.i64.wrap (Int.tdiv x1 64)=x1/64),.e (ν1 0)] ⟨(u64s_abs wsx (Int.toNat (x1/64))),(by omega),(by omega),quo2 (by omega) (by omega) (by omega),quo2 (by omega) (by omega) (by omega),tv⟩ fun ac hS=>?_;refine hS.ordC 12 141 #[vu ((wsx (Int.toNat (x1/64)):Nat):Int),vu ((mkM (x1%64).toNat (imin x2 (64-x1%64)).toNat:Nat):Int)] (bits_without1 (wsx (Int.toNat (x1/64))) (mkM (x1%64).toNat (imin x2 (64-x1%64)).toNat) _ (by first|exact i1.small _ (by rw [i1.many];omega)|exact mkM_lt (by omega)) (by first|exact i1.small _ (by rw [i1.many];omega)|exact mkM_lt (by omega))) ?_;rintro _ wd ⟨rfl,hF⟩;refine⟨vu ((tOp false (wsx (Int.toNat (x1/64))) (mkM (x1%64).toNat (imin x2 (64-x1%64)).toNat):Nat):Int),rfl,?_⟩;replace hS:=(hS.to (hF▸hS.mem)).put (d:=42) (v:=vu ((tOp false (wsx (Int.toNat (x1/64))) (mkM (x1%64).toNat (imin x2 (64-x1%64)).toNat):Nat):Int)) (by decide);clear hF;refine hS.ordV (l:=[0,1,2]) ?_;refine St.ordF [10] [13] [1,2,3,4,8,11,42] (rest:=[(14,2)]) hS hap<|segF [(43,pt g22 (Int.toNat (x1/64)))] [.p ((0:Int)≤(x1/64)∧((x1/64):Int)<(nw:Int))] ⟨(by omega),tv⟩ fun ac hS=>?_;refine St.ord2 14 [200] [1,2,3,4,8,11] hS rfl fun _=>seg [] [(0,none),(1,none),(2,some (g22,.row 62 nw tot24 (fun x=>if x=Int.toNat (x1/64)then vu ((tOp false (wsx (Int.toNat (x1/64))) (mkM (x1%64).toNat (imin x2 (64-x1%64)).toNat):Nat):Int)else(u64s wsx 0) x)))] [.e g22,.p (Int.toNat (x1/64)<nw)] ⟨(by omega),tv⟩ fun ac wd hS=>?_;replace hS:=hS.to (hS.mem.tellR 2 (b:=g22) (e:=62) (m:=nw) (tot:=tot24) (f:=(fun x=>if x=Int.toNat (x1/64)then vu ((tOp false (wsx (Int.toNat (x1/64))) (mkM (x1%64).toNat (imin x2 (64-x1%64)).toNat):Nat):Int)else(u64s wsx 0) x)) (u64s (putW wsx (Int.toNat (x1/64)) (tOp false (wsx (Int.toNat (x1/64))) (mkM (x1%64).toNat (imin x2 (64-x1%64)).toNat))) 0) (fun o ho=>u64s_putv wsx (Int.toNat (x1/64)) (tOp false (wsx (Int.toNat (x1/64))) (mkM (x1%64).toNat (imin x2 (64-x1%64)).toNat)) o));refine zon ?_;refine hS.regC [0,0,20,0,0,20,0,0] [3,4,8] fun _=>seg [(1,vi (x1+(imin x2 (64-x1%64)))),(2,vi (x2-(imin x2 (64-x1%64))))] zn3 [.p (fit .i64 (x2-(imin x2 (64-x1%64)))),.p (fit .i64 (x1+(imin x2 (64-x1%64))))] ⟨zf6 (by omega),zf6 (by omega),tv⟩ fun ac wd hS=>?_;refine zpb ?_;exact zpt (hS.next ((x1+(imin x2 (64-x1%64))),(x2-(imin x2 (64-x1%64))),(putW wsx (Int.toNat (x1/64)) (tOp false (wsx (Int.toNat (x1/64))) (mkM (x1%64).toNat (imin x2 (64-x1%64)).toNat)))) ⟨(by first|omega|assumption|(simp;done)|(simp;omega)),(by exact i1.turnI (m:=imin x2 (64-(x1%64))) hw0 (by omega) (by omega) (by omega) (by omega)),tv⟩ (by dsimp only;omega))
  ·
   refine wp_exit ?_;refine zpe ?_;refine zpe ?_;refine zph ?_;refine zpt ?_;refine hS.regS [0,100,0] [8] fun _=>seg [(9,vi 0)] [(1,some ((ν1 1),.cells [vi (n:Int),sc g22 0 nw c23] 95)),(2,none)] [.e (ν1 1),.e (ν1 1),.e (ν1 0),.e (ν1 0)] tv fun ac wd hS=>?_;refine wp_ret ?_;refine St.retC 0 hS (.tuple #[.agg #[vi (n:Int),sc g22 0 nw c23],vi 0]) [.e (ν1 1),.e (ν1 1)] tv fun hw=>?_;refine⟨g22,0,c23,wsx,retd (tuple2 rfl (vint ?_)),?_,(.inr ((hw.getm 1 g22 (.row 62 nw tot24 (u64s wsx 0))).resolve_right (fun h=>h))),(HE.fn_hi (by omega) (HE.of_row (hw.get 1 g22 (.row 62 nw tot24 (u64s wsx 0))) (fun _ _=>rfl))),hw.fr0⟩
   all_goals (first|rfl|exact trnE_no (by assumption)|exact trnE_yes (by assumption)|(rw [trn_no (by assumption)];exact hW)|(rw [trn_yes (by assumption),show k.toNat=(x1-f).toNat by omega];exact i1))
theorem bits_Without (g:Nat)(o:Nat)(c:Nat)(nw:Nat)(ws:Nat→Nat)(n:Nat)(f:Int)(k:Int)(p:Nat→Bool)(w:World)(hh0:HE.holds w g (.fn o (o+nw) (u64s ws o)))(hW:Words ws nw n p)(hn:n≤1048576):
    Calls Tryz.prog 123 #[.agg #[vi (n:Int),sc g o nw c],vi f,vi k] w fun e w'=>∃(g2:Nat) (o2:Nat) (c2:Nat) (ws2:Nat→Nat),e=.returned (.tuple #[.agg #[vi (n:Int),sc g2 o2 nw c2],vi (trnE n f k)])∧Words ws2 nw n (trn p n f k false)∧(g2=g∨w.heap.size≤g2)∧HE.holds w' g2 (.fn o2 (o2+nw) (u64s ws2 o2))∧Fr w w' no no:=by
 refine enter (args:=[.agg #[vi (n:Int),sc g o nw c],vi f,vi k]) (D:=no) (A:=[]) Tryz.func123 rfl 14 rfl [(g,.fn o (o+nw) (u64s ws o))] (WS.startL ⟨⟨rfl,hh0⟩,trivial⟩) fun ac hS=>?_;refine hS.regS [0,0,0] [1,2] fun ν1=>seg [(3,pt (ν1 0) 0),(6,pt (ν1 1) 0)] [(0,none),(1,some ((ν1 0),.cells [vi (n:Int),sc g o nw c] 95)),(2,some ((ν1 1),.cells [vi 0,vnil] 95))] [] tv fun ac wd hS=>?_;refine zwq ?_;refine hS.opsC 3 [100,0,0] [6] fun _=>seg [(8,.agg #[vi (n:Int),sc g o nw c]),(9,vi f),(10,vi k)] [(0,none),(2,none)] [.e (ν1 0),.e (ν1 0)] tv fun ac wd hS=>?_;refine hS.callC 133 #[.agg #[vi (n:Int),sc g o nw c],vi f,vi k,.func (.func 141) #[] #[]] (bits_turn_without g o c nw ws n f k p _ (hS.mem.get 0 g (.fn o (o+nw) (u64s ws o))) (by first|assumption|omega|(simp_all;done)|(simp_all;omega)) (by first|assumption|omega|(simp_all;done)|(simp_all;omega))) ?_;rintro _ wd ⟨g21,o22,c23,ws24,rfl,hW25,hog0,hoh0,hF⟩;have ho6:g21=g∨w.heap.size≤g21:=by rcases hog0 with hx|hx;rw [hx];exact(.inl rfl);exact .inr (Nat.le_trans hS.mem.fr.size hx)
 refine⟨.tuple #[.agg #[vi (n:Int),sc g21 o22 nw c23],vi (trnE n f k)],rfl,?_⟩;replace hS:=(hS.to (hS.mem.outs hF [(g21,.fn o22 (o22+nw) (u64s ws24 o22))] ⟨⟨rfl,hoh0,hog0.imp (fun e=>⟨0,.fn o (o+nw) (u64s ws o),by rw [e];rfl,rfl⟩) id⟩,trivial⟩)).put (d:=11) (v:=.tuple #[.agg #[vi (n:Int),sc g21 o22 nw c23],vi (trnE n f k)]) (by decide);clear hF;refine hS.opsC 4 [0,0,100,0] [6] fun _=>seg [(7,vi (trnE n f k))] [(1,some ((ν1 1),.cells [vi (n:Int),sc g21 o22 nw c23] 95)),(2,none)] [.e (ν1 1),.e (ν1 1)] tv fun ac wd hS=>?_;refine zlq ?_;refine wp_ret ?_;refine St.retC 0 hS (.tuple #[.agg #[vi (n:Int),sc g21 o22 nw c23],vi (trnE n f k)]) [.e (ν1 1),.e (ν1 1)] tv fun hw=>?_;refine⟨g21,o22,c23,ws24,retd rfl,?_,ho6,(hw.get 1 g21 (.fn o22 (o22+nw) (u64s ws24 o22))),hw.fr0⟩
 all_goals (first|rfl|assumption)
theorem bits_New (length:Int)(w:World):
    Calls Tryz.prog 59 #[vi length] w fun e w'=>∃(g2:Nat) (c2:Nat),e=.returned (.agg #[vi ((capN length:Nat):Int),sc g2 0 ((capN length+63)/64) c2])∧w.heap.size≤g2∧HE.holds w' g2 (.fn 0 (0+((capN length+63)/64)) (u64s (fun _=>0) 0))∧Fr w w' no no:=by
 have hcap:=capN_le length;refine enter (args:=[vi length]) (D:=no) (A:=[]) Tryz.func59 rfl 13 rfl [] (WS.startL trivial) fun ac hS=>?_;refine hS.regS [0] [0] fun ν1=>seg [(2,pt (ν1 0) 0)] [(0,some ((ν1 0),.cells [vi 0,vnil] 95))] [] tv fun ac wd hS=>?_;refine hS.regS [0,0,fx 0 (vi ((capN length:Nat):Int)),0] [2] fun _=>seg [(0,vi ((capN length:Nat):Int))] [(0,none)] [.p ((vi (imax 0 (imin length 1048576)):Value)=vi ((capN length:Nat):Int))] ⟨(vint (capN_eq length)),tv⟩ fun ac wd hS=>?_;refine hS.regS [0,0,20,20,20,90,0,0] [2] fun ν3=>seg [] [(0,some ((ν1 0),.cells [vi ((capN length:Nat):Int),sc (ν3 0) 0 (Int.toNat (((((capN length:Nat):Int)+64)-1)/64)) (Int.toNat (((((capN length:Nat):Int)+64)-1)/64))] 95)),(1,some ((ν3 0),.row 62 (Int.toNat (((((capN length:Nat):Int)+64)-1)/64)) (Int.toNat (((((capN length:Nat):Int)+64)-1)/64)) (u64s (fun _=>0) 0)))] [.e (ν1 0),.e (ν1 0),.p (((((((capN length:Nat):Int)+64)-1)/64):Int)=(((((capN length:Nat):Int)+64)-1)/64)),.p ((0:Int)≤(((((capN length:Nat):Int)+64)-1)/64)∧((((((capN length:Nat):Int)+64)-1)/64):Int)≤2^32∧8≤64),.p ((64:Int)≠0∧IntKind.i64.wrap (Int.tdiv ((((capN length:Nat):Int)+64)-1) 64)=((((capN length:Nat):Int)+64)-1)/64),.p (fit .i64 ((((capN length:Nat):Int)+64)-1)),.p (fit .i64 (((capN length:Nat):Int)+64))] ⟨rfl,(by omega),quo2 (by omega) (by omega) (by omega),zf6 (by omega),zf6 (by omega),tv⟩ fun ac wd hS=>?_;refine wp_ret ?_;refine St.retC 0 hS (.agg #[vi ((capN length:Nat):Int),sc (ν3 0) 0 (Int.toNat (((((capN length:Nat):Int)+64)-1)/64)) (Int.toNat (((((capN length:Nat):Int)+64)-1)/64))]) [.e (ν1 0),.e (ν1 0)] tv fun hw=>?_;refine⟨(ν3 0),(Int.toNat (((((capN length:Nat):Int)+64)-1)/64)),retd (agg2 rfl ?_),((hw.getm 1 (ν3 0) (.row 62 (Int.toNat (((((capN length:Nat):Int)+64)-1)/64)) (Int.toNat (((((capN length:Nat):Int)+64)-1)/64)) (u64s (fun _=>0) 0))).resolve_right (fun h=>h)),(HE.fn_hi (by omega) (HE.of_row (hw.get 1 (ν3 0) (.row 62 (Int.toNat (((((capN length:Nat):Int)+64)-1)/64)) (Int.toNat (((((capN length:Nat):Int)+64)-1)/64)) (u64s (fun _=>0) 0))) (fun _ _=>rfl))),hw.fr0⟩
 all_goals (first|rfl|assumption|(simp;done)|(simp;omega)|omega|(simp_all;done)|(simp_all;omega))
open Go.RowKit Go.Shelf
attribute [local go_sem] Oper.semAt_some
def runsGo (p:Nat→Bool)(n:Nat):Nat→Nat→List (Int×Int)
  |0,_=>[]
  |f+1,i=>if i<n then((i:Int),((nxt p false n i:Nat):Int)-(i:Int))::runsGo p n f (nxt p true n (nxt p false n i))else []
def runs (p:Nat→Bool)(n:Nat):List (Int×Int):=runsGo p n (n+1) (nxt p true n 0)
structure RdS (W:World)(Bn g o c nw:Nat)(ws:Nat→Nat)(n:Nat):Prop where
  len:W.cell? ⟨Bn,0,none⟩=some (.int .i64 (n:Int))
  sl:W.cell? ⟨Bn,1,none⟩=some (.slice (some ⟨g,o,none⟩) nw c)
  db:HE.holds W 1 (.fn 0 64 dbT)
  ws:HE.holds W g (.fn o (o+nw) (u64s ws o))
def KeepK (K:Nat→Prop)(W W':World):Prop:=W.heap.size≤W'.heap.size∧∀k,K k→W'.heap[k]? =W.heap[k]?
theorem RdS.keep {W W':World}{Bn g o c nw:Nat}{ws:Nat→Nat}{n:Nat}(h:RdS W Bn g o c nw ws n)(hk:∀k,(k=1∨k=g∨k=Bn)→W'.heap[k]? =W.heap[k]?):RdS W' Bn g o c nw ws n:=by
  refine⟨?_,?_,h.db.congr (hk _ (.inl rfl)),h.ws.congr (hk _ (.inr (.inl rfl)))⟩
  · rw [←h.len];unfold World.cell?;simp only [hk Bn (.inr (.inr rfl))]
  · rw [←h.sl];unfold World.cell?;simp only [hk Bn (.inr (.inr rfl))]
theorem RdS.lt {W:World}{Bn g o c nw:Nat}{ws:Nat→Nat}{n:Nat}(h:RdS W Bn g o c nw ws n){k:Nat}(hk:k=1∨k=g∨k=Bn):k<W.heap.size:=by
  rcases hk with rfl|rfl|rfl
  · exact h.db.lt
  · exact h.ws.lt
  · obtain⟨_,c,T,fz,hb,_⟩:=cell_block h.len
    exact lt_of_some hb
theorem RdS.fr {W W':World}{Bn g o c nw:Nat}{ws:Nat→Nat}{n:Nat}(h:RdS W Bn g o c nw ws n)(hf:Fr W W' no no):RdS W' Bn g o c nw ws n:=
  h.keep fun k hk=>hf.block k (h.lt hk) (fun x=>x)
theorem grown_of_fr {W W':World}(hf:Fr W W' no no):W.grownBy W' none:=
  ⟨hf.os,hf.tape,hf.output,hf.size,fun k hk _=>hf.block k hk (fun x=>x)⟩
theorem fst3_at {p:Nat→Bool}{n k:Nat}{v:Bool}(h:k≤n):fst3 p n (k:Int) v=((nxt p v n k:Nat):Int):=by
  have h1:=nxt_le p v h;have e:at0 (k:Int)=k:=by unfold at0 imax;split<;>omega
  unfold fst3
  rw [e]
  split<;>omega
theorem nxt_more {p:Nat→Bool}{n i:Nat}(h:i<n)(hp:p i=true):i<nxt p false n i:=by
  have h1:=nxt_ge p false n i
  rcases Nat.lt_or_ge i (nxt p false n i)with h2|h2
  · exact h2
  · have e:nxt p false n i=i:=by omega
    have:=nxt_hit (p:=p) (v:=false) (n:=n) (i:=i) (by omega);rw [e,hp]at this
    cases this
theorem runsGo_end (p:Nat→Bool)(n:Nat):∀f,runsGo p n f n=[]
  |0=>rfl
  |f+1=>by simp [runsGo]
theorem runsGo_len (p:Nat→Bool)(n:Nat):∀f i,(runsGo p n f i).length≤f:=by
  intro f
  induction f with
  |zero=>intro i;simp [runsGo]
  |succ f ih=>intro i;simp only [runsGo];split;simp;exact ih _;simp
theorem rows1_in (n:Nat)(hn:1≤n)(l Bn g o c nw:Nat)(ws:Nat→Nat)(N:Nat)(p:Nat→Bool)(hW:Words ws nw N p)(hN:N≤1048576)(J Jx:List (Int×Int)→World→Prop)
    (W:World) (hJ:AbidesFrom W.heap.size J)
    (hY:∀pre x W1,J pre W1→pre.length<(runs p N).length→YieldAt Fence.wide (n-1) Tryz.prog l #[.int .i64 x.1,.int .i64 x.2] W1 fun e W'=>
      (e=.returned (.bool true)∧J (pre++[x]) W'∧KeepK (fun k=>k=1∨k=g∨k=Bn) W1 W')∨(e=.returned (.bool false)∧Jx (pre++[x]) W'))
    (hR:RdS W Bn g o c nw ws N) (h0:J [] W):
    CallsIn Fence.wide n Tryz.prog 161 #[.func (.yield l) #[] #[],.pointer (some ⟨Bn,0,none⟩)] W fun e W'=>(∃v,e=.returned v)∧
      ((∃ys,ys=runs p N∧J ys W')∨(∃pre,pre <+: runs p N∧Jx pre W')):=by
  refine callsIn_of_wp Tryz.func161 rfl trivial ?_ rfl
  simp only [Tryz.ntmps161,List.size_toArray,List.length_cons,List.length_nil,Nat.reduceAdd,Nat.reduceSub,Array.replicate_succ,Array.replicate_zero,List.push_toArray,List.append_toArray,List.nil_append,List.cons_append]
  have hl:=hR.len;have hs:=hR.sl
  gi_wp2_with (refine⟨trivial,?_⟩;gi_at_call 162;refine(callsIn_wide.2 (bits_first g o c nw ws N 0 true p _ hR.db hR.ws hW hN)).mono ?_;rintro e w1 ⟨rfl,hF⟩)
  have hJ1:J [] w1:=hJ [] W w1 none h0 (grown_of_fr hF) (fun r e=>by cases e);have hR1:=hR.fr hF;have hsz:W.heap.size≤w1.heap.size:=hF.size
  gi_loopw [3] (fun i wr=>∃(pre:List (Int×Int)) (at_ fuel:Nat),i=.int .i64 at_∧runs p N=pre++runsGo p N fuel at_∧at_≤N∧N<at_+fuel∧(at_<N→p at_=true)∧J pre wr∧RdS wr Bn g o c nw ws N)
    (fun i _=>N-(intOf i).toNat)
  case atStart=>
    refine⟨[],nxt p true N 0,N+1,?_,rfl,nxt_le _ _ (by omega),by omega,fun h=>nxt_hit h,hJ1,hR1⟩;rw [show(0:Int)=((0:Nat):Int)from rfl,fst3_at (by omega)]
  case round=>
    obtain⟨pre,at_,fuel,rfl,hx,hle,hfu,hp,hJs,hRs⟩:=hrel;have hl2:=hRs.len;have hs2:=hRs.sl
    by_cases hlt:at_<N
    · have he1:=nxt_more hlt (hp hlt)
      have he2:=nxt_le p false (Nat.le_of_lt hlt);obtain⟨f,rfl⟩:∃f,fuel=f+1:=⟨fuel-1,by omega⟩
      have hrg:runsGo p N (f+1) at_=((at_:Int),((nxt p false N at_:Nat):Int)-(at_:Int))::runsGo p N f (nxt p true N (nxt p false N at_)):=by
        simp only [runsGo];rw [if_pos hlt]
      rw [hrg]at hx;have hlt':(at_:Int)<(N:Int):=by omega
      have hplen:pre.length<(runs p N).length:=by rw [hx];simp
      gi_wp2_with (refine⟨trivial,?_⟩;gi_at_call 162;refine(callsIn_wide.2 (bits_first g o c nw ws N at_ false p _ hRs.db hRs.ws hW hN)).mono ?_;rintro e w2 ⟨rfl,hF2⟩;have hJ2:J pre w2:=hJ pre _ w2 none hJs (grown_of_fr hF2) (fun r e=>by cases e);have hR2:=hRs.fr hF2;rw [fst3_at hle];obtain⟨fn,tmps,assign,body,hy,hRy⟩:=hY pre ((at_:Int),((nxt p false N at_:Nat):Int)-(at_:Int)) w2 hJ2 hplen;dsimp only at hy)
      refine hRy.mono ?_;rintro e W3 (⟨rfl,hJ3,hk3⟩|⟨rfl,hJx3⟩)
      · have hR3:=hR2.keep hk3.2
        have hl3:=hR3.len;have hs3:=hR3.sl
        gi_wp2_with (refine⟨trivial,?_⟩;gi_at_call 162;refine(callsIn_wide.2 (bits_first g o c nw ws N (nxt p false N at_:Nat) true p _ hR3.db hR3.ws hW hN)).mono ?_;rintro e w4 ⟨rfl,hF4⟩;have hJ4:=hJ _ _ w4 none hJ3 (grown_of_fr hF4) (fun r e=>by cases e);have hR4:=hR3.fr hF4;rw [fst3_at he2])
        go_roundw
        case rel=>exact⟨_,_,f,rfl,by rw [hx];simp,nxt_le _ _ he2,by have:=nxt_ge p true N (nxt p false N at_);omega,fun h=>nxt_hit h,hJ4,hR4⟩
        case measure=>have:=nxt_ge p true N (nxt p false N at_);simp [intOf];omega
      · gi_wp2
        refine bodyPost_ret (results_none rfl _ _ _) rfl ?_;exact⟨⟨_,rfl⟩,.inr ⟨_,⟨runsGo p N f (nxt p true N (nxt p false N at_)),by rw [hx];simp⟩,hJx3⟩⟩
    · obtain rfl:at_=N:=by omega
      gi_wp2
      go_end0
      exact⟨⟨_,rfl⟩,.inl ⟨pre,by rw [hx,runsGo_end,List.append_nil],hJs⟩⟩
open Go.RowKit Go.Shelf
attribute [local go_sem] Oper.semAt_some
def flat (l:List (Int×Int)):List Int:=l.flatMap fun x=>[x.1,x.2]
theorem flat_snoc (l:List (Int×Int))(x:Int×Int):flat (l++[x])=flat l++[x.1,x.2]:=by simp [flat]
theorem flat_len (l:List (Int×Int)):(flat l).length=2*l.length:=by
  induction l with
  |nil=>rfl
  |cons x l ih=>
    have e:flat (x::l)=x.1::x.2::flat l:=rfl;rw [e]
    simp only [List.length_cons,ih]
    omega
theorem cell_two_new (w:World)(x y:Value)(t:TypeId):∀j u,[x,y][j]? =some u→(w.alloc (.cells #[x,y] t)).cell? ((⟨w.heap.size,0,none⟩:Addr).add j)=some u:=by
  intro j u hj;rw [addr_add _ rfl]
  unfold World.cell?
  have:(w.alloc (.cells #[x,y] t)).heap[w.heap.size]? =some (.cells #[x,y] t):=World.alloc_heap_new w _
  simp only [this]
  match j,hj with
  |0,hj=>simpa using hj
  |1,hj=>simpa using hj
  |j+2,hj=>simp at hj
def BoxSet (W:World)(B:Nat)(vs:Array Value)(t:TypeId):Prop:=W.heap[B]? =some (.cells vs t (0,0))
theorem boxSet_own {β:Type}(B:Nat)(vs:Array Value)(t:TypeId)(C:Nat):OwnFrom C (fun(_:β) W=>BoxSet W B vs t):=fun s X Y row hs hg hrow=>by
  have hl:B<X.heap.size:=lt_of_some hs;refine(hg.block B hl (fun e'=>?_)).trans hs;obtain⟨_,o,ho,hc⟩:=hrow B e'.symm;rw [show X.heap[B]? =_ from hs]at ho;cases ho;cases hc
theorem Tryz.infoInt:(Tryz.prog.info? 3).map (fun i=>(i.zero,i.size,i.bytes))=some (some (.int .i64 0),1,8):=by kernel_rfl
theorem Rows_in (n:Nat)(a b v:Value)(hv:v=.agg #[a,b])(w:World):
    CallsIn Fence.wide n Tryz.prog 160 #[v] w fun e w'=>e=.returned (.func (.func 161) #[] #[.pointer (some ⟨w.heap.size,0,none⟩)])∧w'=w.alloc (.cells #[a,b] 95):=by
  subst hv;refine callsIn_of_wp Tryz.func160 rfl trivial ?_ rfl
  simp only [Tryz.ntmps160,List.size_toArray,List.length_cons,List.length_nil,Nat.reduceAdd,Nat.reduceSub,Array.replicate_succ,Array.replicate_zero,List.push_toArray,List.append_toArray,List.nil_append,List.cons_append]
  gi_wp2
  go_ret
  exact⟨rfl,rfl⟩
theorem Rows_stops (n:Nat)(hn:1≤n)(Bn g o c nw:Nat)(ws:Nat→Nat)(N:Nat)(p:Nat→Bool)(hW:Words ws nw N p)(hN:N≤1048576)(w:World)(hR:RdS w Bn g o c nw ws N):
    SeqStopsK Fence.wide n Tryz.prog 161 #[.pointer (some ⟨Bn,0,none⟩)] (fun x:Int×Int=>#[Value.int .i64 x.1,Value.int .i64 x.2]) (KeepK (fun k=>k=1∨k=g∨k=Bn)) (fun ys=>ys=runs p N) (fun pre=>pre <+: runs p N) (runs p N).length w:=
  fun l J Jx W hW0 hJ _ hY h0=>rows1_in n hn l Bn g o c nw ws N p hW hN J Jx W hJ hY (hR.keep fun k hk=>hW0.block k (hR.lt hk)) h0
theorem keepK_t {K:Nat→Prop}{A B C:World}(h:KeepK K A B)(k:KeepK K B C):KeepK K A C:=⟨Nat.le_trans h.1 k.1,fun i hi=>(k.2 i hi).trans (h.2 i hi)⟩
theorem keepK_b {K:Nat→Prop}{w:World}(hK:∀k,K k→k<w.heap.size)(W:World)(l:Nat)(o o':Obj)(hl:w.heap.size≤l)(h:W.heap[l]? =some o)(_:o.isCells=false)(_:o.isWalk=false):KeepK K W (W.putObj l o'):=by
  have hg:=grownBy_putObj' W l o';have hll:=lt_of_some h;refine⟨hg.size,fun k hk=>hg.block k (by have:=hK k hk;omega) (fun e=>?_)⟩
  cases e
  have:=hK _ hk;omega
theorem rows_in (n:Nat)(hn:3≤n)(g o c nw:Nat)(ws:Nat→Nat)(N:Nat)(p:Nat→Bool)(hW:Words ws nw N p)(hN:N≤1048576)(hlen:(runs p N).length≤1048577)(w:World)(hdb:HE.holds w 1 (.fn 0 64 dbT))(hws:HE.holds w g (.fn o (o+nw) (u64s ws o))):
    CallsIn Fence.wide n Tryz.prog 159 #[.agg #[.int .i64 (N:Int),.slice (some ⟨g,o,none⟩) nw c]] w fun e W'=>∃v,e=.returned v∧W'.ownsRow w.heap.size 3 1 v (flat (runs p N)).length ((flat (runs p N)).map (Value.int .i64))∧(v=.slice none 0 0↔runs p N=[])∧Below w.heap.size w W':=by
  have h1:1≤n:=by omega
  obtain⟨i0,hi,hz0,hz1,hz2⟩:=info_parts Tryz.infoInt;refine callsIn_of_wp_marks Tryz.func159 rfl trivial ?_ rfl
  simp only [Tryz.ntmps159,List.size_toArray,List.length_cons,List.length_nil,Nat.reduceAdd,Nat.reduceSub,Array.replicate_succ,Array.replicate_zero,List.push_toArray,List.append_toArray,List.nil_append,List.cons_append]
  gi_wp2_with (refine⟨trivial,?_⟩;gi_at_call 160;refine(Rows_in (n-1) _ _ _ rfl _).mono ?_;rintro e w' ⟨rfl,rfl⟩)
  have bS:BoxSet (((w.alloc (.cells #[.int .i64 (N:Int),.slice (some ⟨g,o,none⟩) nw c] 95)).alloc (.cells #[.slice none 0 0] 119)).alloc (.cells #[.int .i64 (N:Int),.slice (some ⟨g,o,none⟩) nw c] 95)) (w.heap.size+2) #[.int .i64 (N:Int),.slice (some ⟨g,o,none⟩) nw c] 95:=by
    have:=World.alloc_heap_new ((w.alloc (.cells #[.int .i64 (N:Int),.slice (some ⟨g,o,none⟩) nw c] 95)).alloc (.cells #[.slice none 0 0] 119)) (.cells #[.int .i64 (N:Int),.slice (some ⟨g,o,none⟩) nw c] 95);rw [World.size_alloc,World.size_alloc]at this;exact this
  have bO:=Boxed.new (w.alloc (.cells #[.int .i64 (N:Int),.slice (some ⟨g,o,none⟩) nw c] 95)) 119 (.slice none 0 0);rw [World.size_alloc]at bO
  have hB0:Below w.heap.size w (((w.alloc (.cells #[.int .i64 (N:Int),.slice (some ⟨g,o,none⟩) nw c] 95)).alloc (.cells #[.slice none 0 0] 119)).alloc (.cells #[.int .i64 (N:Int),.slice (some ⟨g,o,none⟩) nw c] 95)):=
    (((Below.refl _ w).alloc (Nat.le_refl _) _).alloc (by simp) _).alloc (by simp;omega) _
  have hgl:g<w.heap.size:=hws.lt;have h0l:1<w.heap.size:=hdb.lt
  have hRd:RdS (((w.alloc (.cells #[.int .i64 (N:Int),.slice (some ⟨g,o,none⟩) nw c] 95)).alloc (.cells #[.slice none 0 0] 119)).alloc (.cells #[.int .i64 (N:Int),.slice (some ⟨g,o,none⟩) nw c] 95)) (w.heap.size+2) g o c nw ws N:=by
    refine⟨?_,?_,hdb.congr (hB0.block 1 h0l),hws.congr (hB0.block g hgl)⟩
    · unfold World.cell?;rw [show(_:World).heap[w.heap.size+2]? =_ from bS];rfl
    · unfold World.cell?;rw [show(_:World).heap[w.heap.size+2]? =_ from bS];rfl
  refine wpIn_rangeFunc_ownG rfl h1 (gf:=161) (lb:=#[.pointer (some ⟨w.heap.size+2,0,none⟩)]) rfl trivial (enters_of Tryz.func161 (by kernel_rfl) rfl)
    (Rows_stops (n-1) (by omega) (w.heap.size+2) g o c nw ws N p hW hN _ hRd) keepK_t (keepK_b (fun k hk=>hRd.lt hk)) (Below.refl _ _) (fun _=>rfl)
    (fun pre W=>((∃v,Boxed W (w.heap.size+1) 119 v∧W.ownsRow w.heap.size 3 1 v (flat pre).length ((flat pre).map (Value.int .i64))∧(v=.slice none 0 0↔pre=[]))∧BoxSet W (w.heap.size+2) #[.int .i64 (N:Int),.slice (some ⟨g,o,none⟩) nw c] 95)∧Below w.heap.size w W)
    (fun _ _ _=>False)
    (OwnFrom.and (OwnFrom.and (Own.from (holdsRow_own w.heap.size (w.heap.size+1) 119 3 1 (fun pre=>(flat pre).length) (fun pre=>(flat pre).map (Value.int .i64)) (fun pre v=>v=.slice none 0 0↔pre=[])) _) (boxSet_own _ _ _ _)) (ownFrom_below (Nat.le_refl _) (by simp;omega)))
    (fun _ _ _ _ _ hs _ _=>hs)
    ⟨⟨⟨_,bO.alloc _,World.ownsRow_nil _ _ _ _,by simp⟩,bS⟩,hB0⟩
    (fun x=> { tmps:=#[.agg #[.int .i64 (N:Int),.slice (some ⟨g,o,none⟩) nw c],.pointer (some ⟨w.heap.size,0,none⟩),.slice none 0 0,.pointer (some ⟨w.heap.size+1,0,none⟩),.int .i64 x.1,.int .i64 x.2,.agg #[.int .i64 (N:Int),.slice (some ⟨g,o,none⟩) nw c],.func (.func 161) #[] #[.pointer (some ⟨w.heap.size+2,0,none⟩)],.int .i64 x.1,.int .i64 x.2,undef,undef,undef,undef,undef,undef],defers:=[] }) ?assign ?body ?done ?stop
  case assign=>
    intro l x W K hK
    gi_wp2
    exact hK
  case body=>
    rintro l pre x W ⟨⟨⟨v,hv,hrow,hnil⟩,hbs⟩,hB⟩ hlt;have hc:=hv.cell
    have hne:some (w.heap.size+2)≠v.ownBlock:=by
      rcases hrow.2 with⟨rfl,_⟩|⟨g',cap,cur,rfl,hb',hgb,_⟩
      · simp [Value.ownBlock]
      · intro e
        simp only [Value.ownBlock,Option.some.injEq]at e
        subst e;rw [show W.heap[w.heap.size+2]? =_ from hbs]at hgb
        cases hgb
    gi_wp2_with (gi_at_builtin;refine wpListIn_append_own _ rfl _ _ 119 rfl w.heap.size 3 i0 (.int .i64 0) 1 8 Tryz.underlying119 hi hz0 hz1 hz2 rfl (by decide) _ _ _ rfl (hrow.alloc _) ⟨W.heap.size,0,none⟩ 2 2 [.int .i64 x.1,.int .i64 x.2] rfl rfl (cell_two_new _ _ _ _) (by simp [Value.oneCell']) (by have:=flat_len pre;simp only [maxLen];omega) (by have:=flat_len pre;omega) (by have:=hB.size;simp;omega) ?_;intro v' w1 hown' hgrow _;obtain⟨g',cap',rfl⟩:=ownsRow_succ hown';obtain⟨hv1,hv2,hr2,hk2,hb2⟩:=hv.appended (by decide) hrow hB.size (Nat.le_succ _) hown' hgrow;have hc1:=hv1.cell;have hf1:=hv1.frozen)
    have hbs1:BoxSet w1 (w.heap.size+2) #[.int .i64 (N:Int),.slice (some ⟨g,o,none⟩) nw c] 95:=by
      have hl:=lt_of_some hbs;refine(hgrow.block _ (by simp;omega) hne).trans ?_;exact(Below.heap_alloc W _ _ hl).trans hbs
    have hbs2:=(grownBy_setCell' w1 (w.heap.size+1) (.slice (some ⟨g',0,none⟩) ((flat pre).length+1+1) cap')).block _ (lt_of_some hbs1) (by simp);refine⟨hk2.from _,⟨hb2.size,fun k hk=>?_⟩,⟨⟨_,hv2,by rw [flat_snoc];simpa using hr2,by simp⟩,hbs2.trans hbs1⟩,hB.trans hb2⟩
    rcases hk with rfl|rfl|rfl
    · exact hb2.block _ h0l
    · exact hb2.block _ hgl
    · exact hbs2.trans (hbs1.trans hbs.symm)
  case done=>
    rintro D ys W hD rfl ⟨⟨⟨v,hv,hrow,hnil⟩,_⟩,hB⟩ hK;have hc:=hv.cell
    gi_wp2
    refine⟨by simp,.inl ⟨_,_,rfl,run_takeDeferred hK,?_⟩⟩;exact⟨_,results_tmp rfl _ _ _,v,rfl,ownsRow_putObj hrow _ hK rfl,hnil,hB.trans (belowK_b (w:=w) (Nat.le_refl _) W D _ _ (by simp at hD;omega) hK rfl rfl)⟩
  case stop=>
    rintro D c' pre W _ _ h _;exact h.elim
theorem fr_of_below {W W':World}(h:Below W.heap.size W W'):Fr W W' no no:=⟨h.os,h.tape,h.output,h.size,fun k hk _=>h.block k hk,fun _ h=>.inl h⟩
theorem law02_rows_some (g o c nw:Nat)(ws:Nat→Nat)(n:Nat)(p:Nat→Bool)(w:World)(hh0:HE.holds w 1 (.fn 0 64 dbT))(hh1:HE.holds w g (.fn o (o+nw) (u64s ws o)))(hW:Words ws nw n p)(hn:n≤1048576)(hne:runs p n≠[]):
    Calls Tryz.prog 159 #[.agg #[.int .i64 ((n:Nat):Int),.slice (some ⟨g,o,none⟩) nw c]] w fun e w'=>∃(g2:Nat) (c2:Nat),e=.returned (.slice (some ⟨g2,0,none⟩) (flat (runs p n)).length c2)∧w.heap.size≤g2∧HE.holds w' g2 (.fn 0 (0+(flat (runs p n)).length) (ints (flat (runs p n)) 0))∧Fr w w' no no:=by
  refine(callsIn_wide.1 (rows_in 3 (by omega) g o c nw ws n p hW hn (by have:=runsGo_len p n (n+1) (nxt p true n 0);unfold runs;omega) w hh0 hh1)).mono ?_;rintro e w' ⟨v,rfl,hrow,hnil,hB⟩
  rcases hrow.2 with⟨rfl,_⟩|⟨g2,cap,cur,rfl,hb,hgb,h1,h2,h3,h4⟩
  · exact absurd (hnil.1 rfl) hne
  · refine⟨g2,cap,rfl,hb,⟨cur,3,(0,0),hgb,fun x _ hx=>?_⟩,fr_of_below hB⟩
    rw [Nat.zero_add]at hx;have hx2:x<((flat (runs p n)).map (Value.int .i64)).length:=by simpa using hx
    have e1:(cur.toList.take ((flat (runs p n)).length*1))[x]? =((flat (runs p n)).map (Value.int .i64))[x]?:=by rw [h4]
    rw [List.getElem?_take_of_lt (by omega),List.getElem?_map,List.getElem?_eq_getElem hx]at e1
    unfold ints
    rw [Nat.sub_zero,List.getD_eq_getElem?_getD,List.getElem?_eq_getElem hx]
    simpa using e1
theorem take_step {l1 l2:List Int}{x:Int}(h0:0≤x∧x<(l1.length:Int))(hl:l1.length=l2.length)(h:l1.take (Int.toNat x)=l2.take (Int.toNat x))(he:l1.getD (Int.toNat x) 0=l2.getD (Int.toNat x) 0):l1.take (Int.toNat (x+1))=l2.take (Int.toNat (x+1)):=by
  have e:Int.toNat (x+1)=Int.toNat x+1:=by omega
  have k1:Int.toNat x<l1.length:=by omega
  have k2:Int.toNat x<l2.length:=by omega
  rw [e,List.take_add_one,List.take_add_one,h];rw [List.getD_eq_getElem?_getD,List.getD_eq_getElem?_getD,List.getElem?_eq_getElem k1,List.getElem?_eq_getElem k2]at he;rw [List.getElem?_eq_getElem k1,List.getElem?_eq_getElem k2]
  simp only [Option.getD_some]at he
  rw [he]
theorem eqL_len {l1 l2:List Int}(h:¬(l1.length:Int)=(l2.length:Int)):false=(l1==l2):=by
  symm
  rw [beq_eq_false_iff_ne];rintro rfl;exact h rfl
theorem eqL_at {l1 l2:List Int}{x:Int}(h0:0≤x∧x<(l1.length:Int))(hl:l1.length=l2.length)(he:¬l1.getD (Int.toNat x) 0=l2.getD (Int.toNat x) 0):false=(l1==l2):=by
  symm
  rw [beq_eq_false_iff_ne];rintro rfl;exact he rfl
theorem eqL_all {l1 l2:List Int}{x:Int}(h0:x=(l1.length:Int))(hl:l1.length=l2.length)(h:l1.take (Int.toNat x)=l2.take (Int.toNat x)):true=(l1==l2):=by
  have e:Int.toNat x=l1.length:=by omega
  rw [e,List.take_length,hl,List.take_length]at h
  symm
  rw [beq_iff_eq];exact h
theorem bits_Ones (x:Nat)(w:World):
    Calls Tryz.prog 127 #[vu (x:Int)] w fun e w'=>e=.returned (vi (pcI (x:Int)))∧Fr w w' no no:=by
 refine enter (args:=[vu (x:Int)]) (D:=no) (A:=[]) Tryz.func127 rfl 35 rfl [] (WS.startL trivial) fun ac hS=>?_;refine hS.regS [0] [0] (sg [] [] fun ac wd hS=>?_);refine hS.regS [0,0,0,0,0,fx 0 (vu (pc1 (x:Int))),0] [] fun _=>seg [(0,vu (pc1 (x:Int)))] [] [.p ((vu (IntKind.wrap .u64 ((iand .u64 (Int.fdiv (x:Int) (2^1)) 6148914691236517205)+(iand .u64 (x:Int) 6148914691236517205))):Value)=vu (pc1 (x:Int)))] ⟨(vint (rfl)),tv⟩ fun ac wd hS=>?_;refine hS.regS [0,0,0,0,0,fx 0 (vu (pc2 (pc1 (x:Int)))),0] [] fun _=>seg [(0,vu (pc2 (pc1 (x:Int))))] [] [.p ((vu (IntKind.wrap .u64 ((iand .u64 (Int.fdiv (pc1 (x:Int)) (2^2)) 3689348814741910323)+(iand .u64 (pc1 (x:Int)) 3689348814741910323))):Value)=vu (pc2 (pc1 (x:Int))))] ⟨(vint (rfl)),tv⟩ fun ac wd hS=>?_;refine hS.regS [0,0,0,0,fx 0 (vu (pc3 (pc2 (pc1 (x:Int))))),0] [] fun _=>seg [(0,vu (pc3 (pc2 (pc1 (x:Int)))))] [] [.p ((vu (iand .u64 (IntKind.wrap .u64 ((Int.fdiv (pc2 (pc1 (x:Int))) (2^4))+(pc2 (pc1 (x:Int))))) 1085102592571150095):Value)=vu (pc3 (pc2 (pc1 (x:Int)))))] ⟨(vint (rfl)),tv⟩ fun ac wd hS=>?_;refine hS.regS [0,0,0,fx 0 (vu (pc4 8 (pc3 (pc2 (pc1 (x:Int)))))),0] [] fun _=>seg [(0,vu (pc4 8 (pc3 (pc2 (pc1 (x:Int))))))] [] [.p ((vu (IntKind.wrap .u64 ((pc3 (pc2 (pc1 (x:Int))))+(Int.fdiv (pc3 (pc2 (pc1 (x:Int)))) (2^8)))):Value)=vu (pc4 8 (pc3 (pc2 (pc1 (x:Int))))))] ⟨(vint (rfl)),tv⟩ fun ac wd hS=>?_;refine hS.regS [0,0,0,fx 0 (vu (pc4 16 (pc4 8 (pc3 (pc2 (pc1 (x:Int))))))),0] [] fun _=>seg [(0,vu (pc4 16 (pc4 8 (pc3 (pc2 (pc1 (x:Int)))))))] [] [.p ((vu (IntKind.wrap .u64 ((pc4 8 (pc3 (pc2 (pc1 (x:Int)))))+(Int.fdiv (pc4 8 (pc3 (pc2 (pc1 (x:Int))))) (2^16)))):Value)=vu (pc4 16 (pc4 8 (pc3 (pc2 (pc1 (x:Int)))))))] ⟨(vint (rfl)),tv⟩ fun ac wd hS=>?_;refine hS.regS [0,0,0,fx 0 (vu (pc4 32 (pc4 16 (pc4 8 (pc3 (pc2 (pc1 (x:Int)))))))),0] [] fun _=>seg [(0,vu (pc4 32 (pc4 16 (pc4 8 (pc3 (pc2 (pc1 (x:Int))))))))] [] [.p ((vu (IntKind.wrap .u64 ((pc4 16 (pc4 8 (pc3 (pc2 (pc1 (x:Int))))))+(Int.fdiv (pc4 16 (pc4 8 (pc3 (pc2 (pc1 (x:Int)))))) (2^32)))):Value)=vu (pc4 32 (pc4 16 (pc4 8 (pc3 (pc2 (pc1 (x:Int))))))))] ⟨(vint (rfl)),tv⟩ fun ac wd hS=>?_;refine hS.regS [0,0,0,0] [] (sg [(2,vi (iand .i64 (IntKind.wrap .i64 (pc4 32 (pc4 16 (pc4 8 (pc3 (pc2 (pc1 (x:Int)))))))) 127))] [] fun ac wd hS=>?_);refine wp_ret ?_;refine St.retC 0 hS (vi (iand .i64 (IntKind.wrap .i64 (pc4 32 (pc4 16 (pc4 8 (pc3 (pc2 (pc1 (x:Int)))))))) 127)) [] tv fun hw=>?_;refine⟨retd (vint ?_),hw.fr0⟩
 all_goals (rfl)
theorem bits_Count (g:Nat)(o:Nat)(c:Nat)(nw:Nat)(ws:Nat→Nat)(n:Nat)(f:Int)(k:Int)(p:Nat→Bool)(w:World)(hh0:HE.holds w g (.fn o (o+nw) (u64s ws o)))(hW:Words ws nw n p)(hn:n≤1048576):
    Calls Tryz.prog 95 #[.agg #[vi (n:Int),sc g o nw c],vi f,vi k] w fun e w'=>e=.returned (.tuple #[vi (cntV p n f k),vi (trnE n f k)])∧Fr w w' no no:=by
 have hnw:=hW.many;have hsm:=hW.small;refine enter (args:=[.agg #[vi (n:Int),sc g o nw c],vi f,vi k]) (D:=no) (A:=[]) Tryz.func95 rfl 42 rfl [(g,.fn o (o+nw) (u64s ws o))] (WS.startL ⟨⟨rfl,hh0⟩,trivial⟩) fun ac hS=>?_;refine hS.regS [0,0,0] [1,2] fun ν1=>seg [(3,pt (ν1 0) 0)] [(0,none),(1,some ((ν1 0),.cells [vi (n:Int),sc g o nw c] 95))] [] tv fun ac wd hS=>?_;refine wp_seq ?_;refine zwq ?_;refine hS.opsC 3 [100,0,0] [1,2,3] fun _=>seg [(11,.agg #[vi (n:Int),sc g o nw c]),(12,vi f),(13,vi k)] zn2 [.e (ν1 0),.e (ν1 0)] tv fun ac wd hS=>?_;refine hS.call0 125 #[.agg #[vi (n:Int),sc g o nw c],vi f,vi k] 14 (bits_within g o c nw n f k _ (by first|assumption|omega|(simp_all;done)|(simp_all;omega))) fun ac wd hS=>?_;refine hS.opsC 1 [0] [1,2,3] (sg [(15,vb (!(wth n f k)))] zn2 fun ac wd hS=>?_);refine zlq ?_;refine hS.condC (!(wth n f k)) (fun hb1o hb1=>?_) (fun hb1o hb1=>?_)
 ·
  refine hS.regS [0,0] [] (sg [(6,vi 0),(7,vi 3)] [] fun ac wd hS=>?_);refine wp_ret ?_;refine zpr ?_;refine St.retC 0 hS (.tuple #[vi 0,vi 3]) [] tv fun hw=>?_;refine⟨retd (tuple2 (vint ?_) (vint ?_)),hw.fr0⟩
  all_goals (first|rfl|exact cntV_no (by assumption)|exact trnE_no (by assumption)|exact trnE_yes (by assumption)|(rw [cntV_yes (by assumption),i1,show k.toNat=(x1-f).toNat by omega]))
 ·
  have hwt:wth n f k=true:=by simpa using hb1o
  obtain⟨hw0,hw1,hw2⟩:=wth_facts hwt;refine wp_skip ?_;refine zpt ?_;refine hS.regS [0] [1,2,3] (sg [(8,vi 0)] zn2 fun ac wd hS=>?_);refine wp_seq ?_;refine wp_block ?_;refine St.loopC (σ:=Int×Int×Int) (fun(x:Int×Int×Int)=>match x with|(x1,x2,x8)=>⟨[(1,[],vi x1),(2,[],vi x2),(3,[],pt (ν1 0) 0),(8,[],vi x8)],[(g,.fn o (o+nw) (u64s ws o)),((ν1 0),.cells [vi (n:Int),sc g o nw c] 95)],[],(f≤x1∧0≤x2∧x1+x2=f+k)∧(x8=((cntR p f.toNat (x1-f).toNat:Nat):Int))∧True,Int.toNat x2⟩) (f,k,0) ⟨(by first|omega|(rw [show(f-f).toNat=0 by omega];rfl)),(by first|omega|(rw [show(f-f).toNat=0 by omega];rfl)),trivial⟩ hS ?_;clear hS;rintro⟨x1,x2,x8⟩ ⟨i0,i1,-⟩ ac wd hS;replace i0:f≤x1∧0≤x2∧x1+x2=f+k:=i0;replace i1:x8=((cntR p f.toNat (x1-f).toNat:Nat):Int):=i1;have him:0<x2→1≤imin x2 (64-(x1%64))∧imin x2 (64-(x1%64))≤64-(x1%64)∧imin x2 (64-(x1%64))≤x2:=fun h=>by unfold imin;split<;>omega
  have hpc:0<x2→pcI ((ws (Int.toNat (x1/64))&&&mkM (Int.toNat (x1%64)) (Int.toNat (imin x2 (64-(x1%64)))):Nat):Int)=((cntR p x1.toNat (imin x2 (64-(x1%64))).toNat:Nat):Int):=fun h=>hW.countI (by omega) (him h).1 (him h).2.1 (by have:=(him h).2.2;omega)
  have hb8:=cntR_le p (x1-f).toNat f.toNat;have hbm:=cntR_le p (imin x2 (64-(x1%64))).toNat x1.toNat;refine wp_seq ?_;refine hS.regS [0,0] [1,2,3,8] (sg [(17,vb (decide ((0:Int)<x2)))] zn2 fun ac wd hS=>?_);refine hS.condC (decide ((0:Int)<x2)) (fun hb2o hb2=>?_) (fun hb2o hb2=>?_)
  ·
   refine wp_skip ?_;refine zpt ?_;refine wp_block ?_;refine zwq ?_;refine hS.opsC 2 [0,0] [1,2,3,8] (sg [(19,vi x1),(20,vi x2)] zn2 fun ac wd hS=>?_);refine hS.call0 126 #[vi x1,vi x2] 21 (bits_mask x1 x2 _ (by first|assumption|omega|(simp_all;done)|(simp_all;omega)) (by first|assumption|omega|(simp_all;done)|(simp_all;omega))) fun ac wd hS=>?_;refine hS.opsC 5 [0,0,0,0,0] [1,2,3,8] (sg [(9,vu ((mkM (x1%64).toNat (imin x2 (64-x1%64)).toNat:Nat):Int)),(10,vi (imin x2 (64-x1%64)))] zn2 fun ac wd hS=>?_);refine zlq ?_;refine zwq ?_;refine hS.opsC 9 [0,0,100,0,20,20,fx 0 (vu ((ws (Int.toNat (x1/64)):Nat):Int)),0,20] [1,2,3,8,10] fun _=>seg [(24,vi x8),(32,vu (((ws (Int.toNat (x1/64)))&&&(mkM (x1%64).toNat (imin x2 (64-x1%64)).toNat):Nat):Int))] zn2 [.p (bitRaw .and .u64 ((ws (Int.toNat (x1/64)):Nat):Int) ((mkM (x1%64).toNat (imin x2 (64-x1%64)).toNat:Nat):Int)=(((ws (Int.toNat (x1/64)))&&&(mkM (x1%64).toNat (imin x2 (64-x1%64)).toNat):Nat):Int)),.p ((((u64s ws o) (o+Int.toNat (x1/64)*1)):Value)=vu ((ws (Int.toNat (x1/64)):Nat):Int)),.e g,.p (o≤o+Int.toNat (x1/64)*1∧o+Int.toNat (x1/64)*1<(o+nw)),.p ((0:Int)≤(x1/64)∧((x1/64):Int)<(nw:Int)),.p ((64:Int)≠0∧IntKind.i64.wrap (Int.tdiv x1 64)=x1/64),.e (ν1 0)] ⟨iand_u (a:=ws (Int.toNat (x1/64))) (b:=mkM (x1%64).toNat (imin x2 (64-x1%64)).toNat) (by first|exact hW.small _ (by rw [hW.many];omega)|exact mkM_lt (by omega)) (by first|exact hW.small _ (by rw [hW.many];omega)|exact mkM_lt (by omega)),(u64s_rel ws o (Int.toNat (x1/64))),(by omega),(by omega),quo2 (by omega) (by omega) (by omega),tv⟩ fun ac wd hS=>?_;refine hS.call0 127 #[vu (((ws (Int.toNat (x1/64)))&&&(mkM (x1%64).toNat (imin x2 (64-x1%64)).toNat):Nat):Int)] 33 (bits_Ones ((ws (Int.toNat (x1/64)))&&&(mkM (x1%64).toNat (imin x2 (64-x1%64)).toNat)) _) fun ac wd hS=>?_;refine hS.opsC 2 [20,0] [1,2,3,10] fun _=>seg [(8,vi (x8+(pcI ((((ws (Int.toNat (x1/64)))&&&(mkM (x1%64).toNat (imin x2 (64-x1%64)).toNat)):Nat):Int))))] zn2 [.p (fit .i64 (x8+(pcI ((((ws (Int.toNat (x1/64)))&&&(mkM (x1%64).toNat (imin x2 (64-x1%64)).toNat)):Nat):Int))))] ⟨zf6 (by first|omega|(rw [hpc (by omega)];omega)),tv⟩ fun ac wd hS=>?_;refine zlq ?_;refine hS.regC [0,0,20,0,0,20,0,0] [3,8] fun _=>seg [(1,vi (x1+(imin x2 (64-x1%64)))),(2,vi (x2-(imin x2 (64-x1%64))))] zn2 [.p (fit .i64 (x2-(imin x2 (64-x1%64)))),.p (fit .i64 (x1+(imin x2 (64-x1%64))))] ⟨zf6 (by first|omega|(rw [hpc (by omega)];omega)),zf6 (by first|omega|(rw [hpc (by omega)];omega)),tv⟩ fun ac wd hS=>?_;refine zpb ?_;exact zpt (hS.next ((x1+(imin x2 (64-x1%64))),(x2-(imin x2 (64-x1%64))),(x8+(pcI ((((ws (Int.toNat (x1/64)))&&&(mkM (x1%64).toNat (imin x2 (64-x1%64)).toNat)):Nat):Int)))) ⟨(by first|omega|assumption|(simp;done)|(simp;omega)),(by rw [hpc (by omega),i1];exact cnt_step hw0 i0.1 (by omega)),tv⟩ (by dsimp only;omega))
  ·
   refine wp_exit ?_;refine zpe ?_;refine zpe ?_;refine zph ?_;refine zpt ?_;refine hS.regS [0,0,0] [] (sg [(6,vi x8),(7,vi 0)] [] fun ac wd hS=>?_);refine wp_ret ?_;refine St.retC 0 hS (.tuple #[vi x8,vi 0]) [] tv fun hw=>?_;refine⟨retd (tuple2 (vint ?_) (vint ?_)),hw.fr0⟩
   all_goals (first|rfl|exact cntV_no (by assumption)|exact trnE_no (by assumption)|exact trnE_yes (by assumption)|(rw [cntV_yes (by assumption),i1,show k.toNat=(x1-f).toNat by omega]))
theorem slices_EqualI (g1:Nat)(o1:Nat)(c1:Nat)(l1:List Int)(g2:Nat)(o2:Nat)(c2:Nat)(l2:List Int)(w:World)(hh0:HE.holds w g1 (.fn o1 (o1+l1.length) (ints l1 o1)))(hh1:HE.holds w g2 (.fn o2 (o2+l2.length) (ints l2 o2)))(hl:l1.length≤4611686018427387904):
    Calls Tryz.prog 158 #[sc g1 o1 l1.length c1,sc g2 o2 l2.length c2] w fun e w'=>e=.returned (vb (l1==l2))∧Fr w w' no no:=by
 refine enter (args:=[sc g1 o1 l1.length c1,sc g2 o2 l2.length c2]) (D:=no) (A:=[]) Tryz.func158 rfl 26 rfl [(g1,.fn o1 (o1+l1.length) (ints l1 o1)),(g2,.fn o2 (o2+l2.length) (ints l2 o2))] (WS.startL ⟨⟨rfl,hh0⟩,⟨rfl,hh1⟩,trivial⟩) fun ac hS=>?_;refine hS.regS [0] [0,1] (sg [] zn2 fun ac wd hS=>?_);refine wp_seq ?_;refine hS.regS [0,0,0,0,0] [0,1] (sg [(10,vb (((l1.length:Int):Int)!=(l2.length:Int)))] zn2 fun ac wd hS=>?_);refine hS.condC (((l1.length:Int):Int)!=(l2.length:Int)) (fun hb1o hb1=>?_) (fun hb1o hb1=>?_)
 ·
  refine hS.regS [0] [] (sg [(4,vb false)] [] fun ac wd hS=>?_);refine wp_ret ?_;refine zpr ?_;refine St.retC 0 hS (vb false) [] tv fun hw=>?_;refine⟨retd (vbool ?_),hw.fr0⟩
  all_goals (first|exact eqL_len (by omega)|exact eqL_at (x:=x13) (by omega) (by omega) (by assumption)|exact eqL_all (x:=x13) (by omega) (by omega) i2)
 ·
  refine wp_skip ?_;refine zpt ?_;refine wp_seq ?_;refine hS.regS [0,0,0] [0,1] (sg [(12,vi (l1.length:Int)),(13,vi 0)] zn2 fun ac wd hS=>?_);refine wp_block ?_;refine St.loopC (σ:=Int) (fun(x13:Int)=>⟨[(0,[],sc g1 o1 l1.length c1),(1,[],sc g2 o2 l2.length c2),(12,[],vi (l1.length:Int)),(13,[],vi x13)],[(g1,.fn o1 (o1+l1.length) (ints l1 o1)),(g2,.fn o2 (o2+l2.length) (ints l2 o2))],[],(0≤x13)∧(x13≤(l1.length:Int))∧(l1.take x13.toNat=l2.take x13.toNat)∧True,l1.length-Int.toNat x13⟩) 0 ⟨(by first|omega|rfl),(by first|omega|rfl),(by first|omega|rfl),trivial⟩ hS ?_;clear hS;rintro x13 ⟨i0,i1,i2,-⟩ ac wd hS;replace i0:0≤x13:=i0;replace i1:x13≤(l1.length:Int):=i1;replace i2:l1.take x13.toNat=l2.take x13.toNat:=i2;refine hS.regS [0] [0,1,12,13] (sg [(14,vb (decide ((x13:Int)<(l1.length:Int))))] zn2 fun ac wd hS=>?_);refine wp_seq ?_;refine hS.condC (decide ((x13:Int)<(l1.length:Int))) (fun hb2o hb2=>?_) (fun hb2o hb2=>?_)
  ·
   refine wp_skip ?_;refine zpt ?_;refine wp_seq ?_;refine wp_block ?_;refine hS.regS [0,0] [0,1,12,13] (sg [(5,vi x13)] zn2 fun ac wd hS=>?_);refine hS.drawS [0,0,20,fx 0 (vi (List.getD l1 x13.toNat 0)),0,0,20,fx 100 (vi (List.getD l2 x13.toNat 0)),0] [0,1,12,13]<|seg [(24,vb (((List.getD l1 x13.toNat 0):Int)!=(List.getD l2 x13.toNat 0)))] zn2 [.p ((((ints l2 o2) (o2+Int.toNat x13*1)):Value)=vi (List.getD l2 x13.toNat 0)),.e g2,.p (o2≤o2+Int.toNat x13*1∧o2+Int.toNat x13*1<(o2+l2.length)),.p ((0:Int)≤x13∧(x13:Int)<(l2.length:Int)),.p ((((ints l1 o1) (o1+Int.toNat x13*1)):Value)=vi (List.getD l1 x13.toNat 0)),.e g1,.p (o1≤o1+Int.toNat x13*1∧o1+Int.toNat x13*1<(o1+l1.length)),.p ((0:Int)≤x13∧(x13:Int)<(l1.length:Int))] ⟨(ints_rel l2 o2 x13.toNat),(by omega),(by omega),(ints_rel l1 o1 x13.toNat),(by omega),(by omega),tv⟩ fun ac wd hS=>?_;refine hS.condC (((List.getD l1 x13.toNat 0):Int)!=(List.getD l2 x13.toNat 0)) (fun hb3o hb3=>?_) (fun hb3o hb3=>?_)
   ·
    refine hS.regS [0] [] (sg [(4,vb false)] [] fun ac wd hS=>?_);refine wp_ret ?_;refine zpc ?_;refine zpr ?_;refine zpr ?_;refine zpc ?_;refine zpr ?_;refine St.retC 0 hS (vb false) [] tv fun hw=>?_;refine⟨retd (vbool ?_),hw.fr0⟩
    all_goals (first|exact eqL_len (by omega)|exact eqL_at (x:=x13) (by omega) (by omega) (by assumption)|exact eqL_all (x:=x13) (by omega) (by omega) i2)
   ·
    refine wp_skip ?_;refine zpb ?_;refine zpt ?_;refine hS.regC [20,0] [0,1,12] fun _=>seg [(13,vi (x13+1))] zn2 [.p (fit .i64 (x13+1))] ⟨zf6 (by omega),tv⟩ fun ac wd hS=>?_;exact zpt (hS.next (x13+1) ⟨(by first|omega|assumption|(simp;done)|(simp;omega)),(by first|omega|assumption|(simp;done)|(simp;omega)),(by exact take_step (by omega) (by omega) i2 (by assumption)),tv⟩ (by dsimp only;omega))
  ·
   refine wp_exit ?_;refine zpe ?_;refine zpe ?_;refine zph ?_;refine zpt ?_;refine hS.regS [0] [] (sg [(4,vb true)] [] fun ac wd hS=>?_);refine wp_ret ?_;refine St.retC 0 hS (vb true) [] tv fun hw=>?_;refine⟨retd (vbool ?_),hw.fr0⟩
   all_goals (first|exact eqL_len (by omega)|exact eqL_at (x:=x13) (by omega) (by omega) (by assumption)|exact eqL_all (x:=x13) (by omega) (by omega) i2)
theorem law02_awake (w:World)(hh0:HE.holds w 1 (.fn 0 64 dbT)):
    Calls Tryz.prog 156 #[] w fun e w'=>e=.returned (vb true)∧Fr w w' no no:=by
 refine enter (args:=[]) (D:=no) (A:=[]) Tryz.func156 rfl 40 rfl [(1,.fn 0 64 dbT)] (WS.startL ⟨⟨rfl,hh0⟩,trivial⟩) fun ac hS=>?_;refine hS.regS [0] [] (sg [] [(0,none)] fun ac wd hS=>?_);refine zwq ?_;refine hS.callC 59 #[vi 10] (bits_New 10 _) ?_;rintro _ wd ⟨g21,c22,rfl,hog0,hoh0,hF⟩;have ho3:w.heap.size≤g21:=Nat.le_trans hS.mem.fr.size hog0;refine⟨.agg #[vi ((capN 10:Nat):Int),sc g21 0 ((capN 10+63)/64) c22],rfl,?_⟩;replace hS:=(hS.to (hS.mem.outs hF [(g21,.fn 0 (0+((capN 10+63)/64)) (u64s (fun _=>0) 0))] ⟨⟨rfl,hoh0,.inr hog0⟩,trivial⟩)).put (d:=7) (v:=.agg #[vi ((capN 10:Nat):Int),sc g21 0 ((capN 10+63)/64) c22]) (by decide);clear hF;refine hS.callC 103 #[.agg #[vi ((capN 10:Nat):Int),sc g21 0 ((capN 10+63)/64) c22],vi 2,vi 3] (bits_With g21 0 c22 ((capN 10+63)/64) (fun _=>0) (capN 10) 2 3 (fun _=>false) _ (hS.mem.get 1 g21 (.fn 0 (0+((capN 10+63)/64)) (u64s (fun _=>0) 0))) (by first|exact words_none _|exact capN_le _|decide) (by first|exact words_none _|exact capN_le _|decide)) ?_;rintro _ wd ⟨g24,o25,c26,ws27,rfl,hW28,hog0,hoh0,hF⟩;have ho9:w.heap.size≤g24:=by rcases hog0 with hx|hx;rw [hx];exact ho3;exact Nat.le_trans hS.mem.fr.size hx
 refine⟨.tuple #[.agg #[vi (((capN 10):Nat):Int),sc g24 o25 ((capN 10+63)/64) c26],vi (trnE (capN 10) 2 3)],rfl,?_⟩;replace hS:=(hS.to (hS.mem.outs hF [(g24,.fn o25 (o25+((capN 10+63)/64)) (u64s ws27 o25))] ⟨⟨rfl,hoh0,hog0.imp (fun e=>⟨1,.fn 0 (0+((capN 10+63)/64)) (u64s (fun _=>0) 0),by rw [e];rfl,rfl⟩) id⟩,trivial⟩)).put (d:=8) (v:=.tuple #[.agg #[vi (((capN 10):Nat):Int),sc g24 o25 ((capN 10+63)/64) c26],vi (trnE (capN 10) 2 3)]) (by decide);clear hF;refine hS.opsC 6 [0,0,0,0,300,0] [] fun ν2=>seg [(1,pt (ν2 0) 0),(2,vi (trnE (capN 10) 2 3))] [(0,none),(2,none),(3,some ((ν2 0),.cells [vi (((capN 10):Nat):Int),sc g24 o25 ((capN 10+63)/64) c26] 95))] [.e (ν2 0),.e (ν2 0)] tv fun ac wd hS=>?_;refine zlq ?_;refine zwq ?_;refine hS.opsC 1 [200] [1,2] fun _=>seg [(12,.agg #[vi (((capN 10):Nat):Int),sc g24 o25 ((capN 10+63)/64) c26])] zn3 [.e (ν2 0),.e (ν2 0)] tv fun ac wd hS=>?_;refine hS.callC 123 #[.agg #[vi (((capN 10):Nat):Int),sc g24 o25 ((capN 10+63)/64) c26],vi 3,vi 1] (bits_Without g24 o25 c26 ((capN 10+63)/64) ws27 (capN 10) 3 1 (trn (fun _=>false) (capN 10) 2 3 true) _ (hS.mem.get 1 g24 (.fn o25 (o25+((capN 10+63)/64)) (u64s ws27 o25))) (by first|assumption|exact capN_le _) (by first|assumption|exact capN_le _)) ?_;rintro _ wd ⟨g210,o211,c212,ws213,rfl,hW214,hog0,hoh0,hF⟩;have ho15:w.heap.size≤g210:=by rcases hog0 with hx|hx;rw [hx];exact ho9;exact Nat.le_trans hS.mem.fr.size hx
 refine⟨.tuple #[.agg #[vi (((capN 10):Nat):Int),sc g210 o211 ((capN 10+63)/64) c212],vi (trnE (capN 10) 3 1)],rfl,?_⟩;replace hS:=(hS.to (hS.mem.outs hF [(g210,.fn o211 (o211+((capN 10+63)/64)) (u64s ws213 o211))] ⟨⟨rfl,hoh0,hog0.imp (fun e=>⟨1,.fn o25 (o25+((capN 10+63)/64)) (u64s ws27 o25),by rw [e];rfl,rfl⟩) id⟩,trivial⟩)).put (d:=13) (v:=.tuple #[.agg #[vi (((capN 10):Nat):Int),sc g210 o211 ((capN 10+63)/64) c212],vi (trnE (capN 10) 3 1)]) (by decide);clear hF;refine hS.opsC 5 [0,0,0,200,0] [1,2] fun _=>seg [(3,vi (trnE (capN 10) 3 1))] [(0,none),(2,some ((ν2 0),.cells [vi (((capN 10):Nat):Int),sc g210 o211 ((capN 10+63)/64) c212] 95)),(3,none)] [.e (ν2 0),.e (ν2 0)] tv fun ac wd hS=>?_;refine zlq ?_;refine zwq ?_;refine hS.opsC 1 [100] [1,2,3] fun _=>seg [(17,.agg #[vi (((capN 10):Nat):Int),sc g210 o211 ((capN 10+63)/64) c212])] zn3 [.e (ν2 0),.e (ν2 0)] tv fun ac wd hS=>?_;refine hS.call0 157 #[.agg #[vi (((capN 10):Nat):Int),sc g210 o211 ((capN 10+63)/64) c212],vi 3,vb false] 18 (bits_First g210 o211 c212 ((capN 10+63)/64) ws213 (capN 10) 3 false (trn (trn (fun _=>false) (capN 10) 2 3 true) (capN 10) 3 1 false) _ (hS.mem.get 0 1 (.fn 0 64 dbT)) (hS.mem.get 2 g210 (.fn o211 (o211+((capN 10+63)/64)) (u64s ws213 o211))) (by first|assumption|exact capN_le _) (by first|assumption|exact capN_le _)) fun ac wd hS=>?_;refine hS.opsC 5 [0,0,0,0,0] [1,2,3] (sg [(4,vi (fst1 (trn (trn (fun _=>false) (capN 10) 2 3 true) (capN 10) 3 1 false) (capN 10) 3 false)),(5,vb (fst2 (trn (trn (fun _=>false) (capN 10) 2 3 true) (capN 10) 3 1 false) (capN 10) 3 false))] zn3 fun ac wd hS=>?_);refine zlq ?_;refine zwq ?_;refine hS.opsC 14 [0,0,0,3,3,80,0,3,80,0,3,3,80,0] [1] (sg [(34,vb ((((((trnE (capN 10) 2 3):Int)==0)&&(((trnE (capN 10) 3 1):Int)==0))&&(fst2 (trn (trn (fun _=>false) (capN 10) 2 3 true) (capN 10) 3 1 false) (capN 10) 3 false))&&(((fst1 (trn (trn (fun _=>false) (capN 10) 2 3 true) (capN 10) 3 1 false) (capN 10) 3 false):Int)==3)))] zn3 fun ac wd hS=>?_);have hg16o:((((((trnE (capN 10) 2 3):Int)==0)&&(((trnE (capN 10) 3 1):Int)==0))&&(fst2 (trn (trn (fun _=>false) (capN 10) 2 3 true) (capN 10) 3 1 false) (capN 10) 3 false))&&(((fst1 (trn (trn (fun _=>false) (capN 10) 2 3 true) (capN 10) 3 1 false) (capN 10) 3 false):Int)==3))=true:=by decide+kernel
 replace hS:=hS.fix 34 (vb true) (congrArg Value.bool hg16o);refine hS.opsC 1 [101] [34] fun _=>seg [(35,.agg #[vi (((capN 10):Nat):Int),sc g210 o211 ((capN 10+63)/64) c212])] [(0,none),(2,none)] [.t true,.e (ν2 0),.e (ν2 0)] tv fun ac wd hS=>?_;refine hS.callG true 159 #[.agg #[vi (((capN 10):Nat):Int),sc g210 o211 ((capN 10+63)/64) c212]] (law02_rows_some g210 o211 c212 ((capN 10+63)/64) ws213 (capN 10) (trn (trn (fun _=>false) (capN 10) 2 3 true) (capN 10) 3 1 false) _ (hS.mem.get 0 1 (.fn 0 64 dbT)) (hS.mem.get 1 g210 (.fn o211 (o211+((capN 10+63)/64)) (u64s ws213 o211))) (by first|assumption|exact capN_le _|decide+kernel) (by first|assumption|exact capN_le _|decide+kernel) (by first|assumption|exact capN_le _|decide+kernel)) ?_;rintro _ wd ⟨g217,c218,rfl,hog0,hoh0,hF⟩;have ho19:w.heap.size≤g217:=Nat.le_trans hS.mem.fr.size hog0;refine⟨sc g217 0 (flat (runs (trn (trn (fun _=>false) (capN 10) 2 3 true) (capN 10) 3 1 false) (capN 10))).length c218,rfl,?_⟩;replace hS:=(hS.to (hS.mem.outs hF [(g217,.fn 0 (0+(flat (runs (trn (trn (fun _=>false) (capN 10) 2 3 true) (capN 10) 3 1 false) (capN 10))).length) (ints (flat (runs (trn (trn (fun _=>false) (capN 10) 2 3 true) (capN 10) 3 1 false) (capN 10))) 0))] ⟨⟨rfl,hoh0,.inr hog0⟩,trivial⟩)).put (d:=36) (v:=sc g217 0 (flat (runs (trn (trn (fun _=>false) (capN 10) 2 3 true) (capN 10) 3 1 false) (capN 10))).length c218) (by decide);clear hF;refine hS.opsC 1 [1] [34,36] fun ν9=>seg [(37,sc (ν9 0) 0 4 4)] [(0,none),(2,none),(3,some ((ν9 0),.cells [vi 2,vi 1,vi 4,vi 1] 3))] [.t true] tv fun ac wd hS=>?_;refine hS.callG true 158 #[sc g217 0 (flat (runs (trn (trn (fun _=>false) (capN 10) 2 3 true) (capN 10) 3 1 false) (capN 10))).length c218,sc (ν9 0) 0 4 4] (slices_EqualI g217 0 c218 (flat (runs (trn (trn (fun _=>false) (capN 10) 2 3 true) (capN 10) 3 1 false) (capN 10))) (ν9 0) 0 4 ([2,1,4,1]) _ (hS.mem.get 1 g217 (.fn 0 (0+(flat (runs (trn (trn (fun _=>false) (capN 10) 2 3 true) (capN 10) 3 1 false) (capN 10))).length) (ints (flat (runs (trn (trn (fun _=>false) (capN 10) 2 3 true) (capN 10) 3 1 false) (capN 10))) 0))) (HE.of_cells (hS.mem.get 2 (ν9 0) (.cells [vi 2,vi 1,vi 4,vi 1] 3)) (fun o ho=>by have ho:o<4:=ho;rcases(by omega:o=0∨o=1∨o=2∨o=3)with rfl|rfl|rfl|rfl<;>rfl)) (by decide+kernel)) ?_;rintro _ wd ⟨rfl,hF⟩;refine⟨vb ((flat (runs (trn (trn (fun _=>false) (capN 10) 2 3 true) (capN 10) 3 1 false) (capN 10)))==([2,1,4,1])),rfl,?_⟩;replace hS:=hS.kp hF 38 (vb ((flat (runs (trn (trn (fun _=>false) (capN 10) 2 3 true) (capN 10) 3 1 false) (capN 10)))==([2,1,4,1])));clear hF;refine hS.opsC 2 [70,0] [] fun _=>seg [(0,vb ((flat (runs (trn (trn (fun _=>false) (capN 10) 2 3 true) (capN 10) 3 1 false) (capN 10)))==([2,1,4,1])))] [(0,none)] [.t true] tv fun ac wd hS=>?_;refine zlq ?_;refine wp_ret ?_;refine St.retC 0 hS (vb ((flat (runs (trn (trn (fun _=>false) (capN 10) 2 3 true) (capN 10) 3 1 false) (capN 10)))==([2,1,4,1]))) [] tv fun hw=>?_;refine⟨retd (vbool ?_),hw.fr0⟩
 all_goals (first|rfl|decide+kernel)
theorem law02_Awake (w:World)(hh0:HE.holds w 1 (.fn 0 64 dbT)):
    Calls Tryz.prog 155 #[] w fun e w'=>e=.returned (vb true)∧Fr w w' no no:=by
 refine enter (args:=[]) (D:=no) (A:=[]) Tryz.func155 rfl 2 rfl [(1,.fn 0 64 dbT)] (WS.startL ⟨⟨rfl,hh0⟩,trivial⟩) fun ac hS=>?_;refine hS.regS [0] [] (sg [] [(0,none)] fun ac wd hS=>?_);refine zwq ?_;refine hS.call0 156 #[] 1 (law02_awake _ (hS.mem.get 0 1 (.fn 0 64 dbT))) fun ac wd hS=>?_;refine hS.opsC 1 [0] [] (sg [(0,vb true)] [(0,none)] fun ac wd hS=>?_);refine zlq ?_;refine wp_ret ?_;refine St.retC 0 hS (vb true) [] tv fun hw=>?_;refine⟨retd rfl,hw.fr0⟩
def roF (cs:List Value)(o:Nat):Value:=cs.getD o undef
theorem HE.ro {w:World}{b:Nat}{cs:List Value}{T:TypeId}(h:HE.holds w b (.cells cs T)):HE.holds w b (.fn 0 cs.length (roF cs)):=by
  refine HE.of_cells h fun o ho=>?_
  unfold roF
  rw [List.getD_eq_getElem?_getD,List.getElem?_eq_getElem ho];rfl
def inB (m:AM)(a n:Int):Bool:=decide (0≤a)&&decide (0≤n)&&decide (n≤(m.cap:Int)*4096)&&decide (a≤(m.cap:Int)*4096-n)
def pg0 (a:Int):Nat:=(a/4096).toNat
def pgN (a n:Int):Nat:=((a+n-1)/4096-a/4096+1).toNat
def thr (m:AM)(a n:Int):Bool:=inB m a n&&(decide (n=0)||decide (cntR m.com (pg0 a) (pgN a n)=pgN a n))
def chkE (m:AM)(a n:Int):Int:=if thr m a n then 0 else 3
def rowE (m:AM)(f n:Int):Int:=if n<1 then 2 else trnE m.cap f n
def rowC (m:AM)(f n:Int):Int:=if n<1 then 0 else cntV m.com m.cap f n
theorem ArAt.hd {w:World}{b:Nat}{F:Nat→Prop}{m:AM}{d:Lie}(h:ArAt w ⟨b,F,m⟩ d):
    HE.holds w b (.cells [sc d.bp 0 m.cap m.cap,vi (m.cap:Int),sc d.bw d.ow d.nw d.cw,vi (countTo m.com m.cap:Int),vb m.armed,vi (m.refuse:Int)] d.TA):=h.head
theorem ArAt.ro {w:World}{b:Nat}{F:Nat→Prop}{m:AM}{d:Lie}(h:ArAt w ⟨b,F,m⟩ d):
    HE.holds w b (.fn 0 6 (roF [sc d.bp 0 m.cap m.cap,vi (m.cap:Int),sc d.bw d.ow d.nw d.cw,vi (countTo m.com m.cap:Int),vb m.armed,vi (m.refuse:Int)])):=HE.ro h.hd
theorem ArAt.wo {w:World}{b:Nat}{F:Nat→Prop}{m:AM}{d:Lie}(h:ArAt w ⟨b,F,m⟩ d):HE.holds w d.bw (.fn d.ow (d.ow+d.nw) (u64s d.ws d.ow)):=by
  obtain⟨c,T,fz,h1,h2⟩:=h.words;refine⟨c,T,fz,h1,fun x h3 h4=>?_⟩;have:=h2 (x-d.ow) (by omega);rw [show d.ow+(x-d.ow)=x by omega]at this;exact this
def pagesV (com:Nat→Bool)(pb:Nat→Nat)(o x:Nat):Value:=.pointer (if com (x-o)then some ⟨pb (x-o),0,none⟩else none)
theorem ArAt.po {w:World}{b:Nat}{F:Nat→Prop}{m:AM}{d:Lie}(h:ArAt w ⟨b,F,m⟩ d):HE.holds w d.bp (.fn 0 (0+m.cap) (pagesV m.com d.pb 0)):=by
  obtain⟨c,h1,h2,h3⟩:=h.pages;exact⟨c,d.TP,(0,0),h1,fun x _ h4=>h3 x (by simpa using h4)⟩
theorem ArAt.pr {w:World}{b:Nat}{F:Nat→Prop}{m:AM}{d:Lie}(h:ArAt w ⟨b,F,m⟩ d):HE.holds w d.bp (.row d.TP m.cap m.cap (pagesV m.com d.pb 0)):=by
  obtain⟨c,h1,h2,h3⟩:=h.pages;exact⟨c,h1,h2,Nat.le_refl _,fun x h4=>h3 x h4⟩
theorem ArAt.pw {w:World}{b:Nat}{F:Nat→Prop}{m:AM}{d:Lie}(h:ArAt w ⟨b,F,m⟩ d){i:Nat}(hi:i<m.cap)(hc:m.com i=true):∃T,HE.holds w (d.pb i) (.row T 4096 4096 (bytes (fun o=>m.mem (4096*i+o)) 0)):=by
  obtain⟨c,T,h1,h2,h3⟩:=h.page i hi hc;exact⟨T,c,h1,h2,Nat.le_refl _,fun x h4=>h3 x h4⟩
theorem ArAt.po1 {w:World}{b:Nat}{F:Nat→Prop}{m:AM}{d:Lie}(h:ArAt w ⟨b,F,m⟩ d){i:Nat}(hi:i<m.cap)(hc:m.com i=true):HE.holds w (d.pb i) (.fn 0 (0+4096) (bytes (fun o=>m.mem (4096*i+o)) 0)):=by
  obtain⟨c,T,h1,h2,h3⟩:=h.page i hi hc;exact⟨c,T,(0,0),h1,fun x _ h4=>h3 x (by omega)⟩
theorem rowE_lt {m:AM}{f n:Int}(h:n<1):rowE m f n=2:=if_pos h
theorem rowC_lt {m:AM}{f n:Int}(h:n<1):rowC m f n=0:=if_pos h
theorem rowE_ge {m:AM}{f n:Int}(h:1≤n):rowE m f n=trnE m.cap f n:=if_neg (by omega)
theorem rowC_ge {m:AM}{f n:Int}(h:1≤n):rowC m f n=cntV m.com m.cap f n:=if_neg (by omega)
theorem chk_out {m:AM}{a n:Int}(h:inB m a n=false):(3:Int)=chkE m a n:=by unfold chkE thr;rw [h];rfl
theorem chk_nil {m:AM}{a n:Int}(h:inB m a n=true)(h0:n=0):(0:Int)=chkE m a n:=by unfold chkE thr;rw [h,h0];rfl
theorem inB_facts {m:AM}{a n:Int}(h:inB m a n=true):0≤a∧0≤n∧n≤(m.cap:Int)*4096∧a≤(m.cap:Int)*4096-n:=by
  unfold inB at h
  simp only [Bool.and_eq_true,decide_eq_true_eq]at h
  omega
theorem cnt_here {m:AM}{a n:Int}(h:inB m a n=true)(h0:n≠0):cntV m.com m.cap (a/4096) ((a+n-1)/4096-a/4096+1)=((cntR m.com (pg0 a) (pgN a n):Nat):Int)∧cntR m.com (pg0 a) (pgN a n)≤pgN a n∧(pgN a n:Int)=(a+n-1)/4096-a/4096+1:=by
  obtain⟨h1,h2,h3,h4⟩:=inB_facts h
  have hw:wth m.cap (a/4096) ((a+n-1)/4096-a/4096+1)=true:=by
    unfold wth
    simp only [Bool.and_eq_true,decide_eq_true_eq]
    omega
  refine⟨cntV_yes hw,cntR_le _ _ _,?_⟩
  unfold pgN;omega
theorem chk_no {m:AM}{a n:Int}(h:inB m a n=true)(h0:n≠0)(hc:cntV m.com m.cap (a/4096) ((a+n-1)/4096-a/4096+1)≤(a+n-1)/4096-a/4096):(3:Int)=chkE m a n:=by
  obtain⟨h1,h2,h3⟩:=cnt_here h h0
  unfold chkE thr
  have:¬cntR m.com (pg0 a) (pgN a n)=pgN a n:=by omega
  rw [h]
  simp [h0,this]
theorem chk_yes {m:AM}{a n:Int}(h:inB m a n=true)(h0:n≠0)(hc:(a+n-1)/4096-a/4096<cntV m.com m.cap (a/4096) ((a+n-1)/4096-a/4096+1)):(0:Int)=chkE m a n:=by
  obtain⟨h1,h2,h3⟩:=cnt_here h h0
  unfold chkE thr
  have:cntR m.com (pg0 a) (pgN a n)=pgN a n:=by omega
  rw [h]
  simp [this]
theorem inB_no {m:AM}{a n:Int}(h:a<0∨n<0∨(m.cap:Int)*4096<n∨(m.cap:Int)*4096-n<a):inB m a n=false:=by
  rw [Bool.eq_false_iff];intro hb;have:=inB_facts hb;omega
theorem inB_yes {m:AM}{a n:Int}(h:0≤a)(h1:0≤n)(h2:n≤(m.cap:Int)*4096)(h3:a≤(m.cap:Int)*4096-n):inB m a n=true:=by
  unfold inB
  simp [h,h1,h2,h3]
def AM.new (c:Int):AM:=⟨capN c,fun _=>false,fun _=>0,false,0⟩
theorem countTo_none (n:Nat):countTo (fun _=>false) n=0:=by
  induction n with
  |zero=>rfl
  |succ n ih=>simp [countTo,ih]
theorem ar_new {w:World}{b bp bw nw cw n:Nat}{TA TP:TypeId}(h1:HE.holds w b (.cells [sc bp 0 n n,vi (n:Int),sc bw 0 nw cw,vi 0,vb false,vi 0] TA))(h2:HE.holds w bp (.row TP n n zerosP))(h3:HE.holds w bw (.fn 0 (0+nw) (u64s (fun _=>0) 0)))
    (e1:b≠bp) (e2:b≠bw) (e3:bp≠bw) (hn:n≤1048576) (hw:nw=(n+63)/64):(arR b (fun k=>k=b∨k=bp∨k=bw) ⟨n,fun _=>false,fun _=>0,false,0⟩).R w:=by
  obtain⟨c,k1,k2,k3,k4⟩:=h2;obtain⟨c3,T,fz,k5,k6⟩:=h3;refine⟨⟨bp,bw,0,nw,cw,fun _=>0,fun _=>0,TA,TP⟩,?_,⟨c,k1,k2,fun i hi=>k4 i hi⟩,⟨c3,T,fz,k5,fun j hj=>?_⟩,?_,(fun i _ h=>by cases h),e1,e2,e3,(fun i _ h=>by cases h),(fun i j _ h=>by cases h),hn,(show 0<2^63 by decide),fun k=>?_⟩
  · rw [countTo_none];exact h1
  · have hj:j<nw:=hj
    have:=k6 (0+j) (by omega) (by omega);exact this
  · subst hw;exact words_none n
  · constructor
    · rintro(h|h|h)
      · exact .inl h
      · exact .inr (.inl h)
      · exact .inr (.inr (.inl h))
    · rintro(h|h|h|⟨i,_,h,_⟩)
      · exact .inl h
      · exact .inr (.inl h)
      · exact .inr (.inr h)
      · cases h
structure PG where
  cap:Nat
  com:Nat→Bool
  mem:Nat→UInt8
  pb:Nat→Nat
structure PgAt (w:World)(F:Nat→Prop)(p:PG):Prop where
  page:∀i,i<p.cap→p.com i=true→∃T,HE.holds w (p.pb i) (.row T 4096 4096 (bytes (fun o=>p.mem (4096*i+o)) 0))
  inj:∀i j,i<p.cap→p.com i=true→j<p.cap→p.com j=true→p.pb i=p.pb j→i=j
  foot:∀k,F k↔∃i,i<p.cap∧p.com i=true∧k=p.pb i
def pgR (_:Nat)(F:Nat→Prop)(p:PG):Res:=⟨F,fun w=>PgAt w F p,fun w h k hk=>by
  obtain⟨i,h1,h2,rfl⟩:=(h.foot k).1 hk;obtain⟨T,h3⟩:=h.page i h1 h2
  exact h3.lt,fun w w' h e=>⟨fun i h1 h2=>by
  obtain⟨T,h3⟩:=h.page i h1 h2
  exact⟨T,h3.congr (e _ ((h.foot _).2 ⟨i,h1,h2,rfl⟩))⟩,h.inj,h.foot⟩⟩
def Fp (cap:Nat)(com:Nat→Bool)(pb:Nat→Nat)(k:Nat):Prop:=∃i,i<cap∧com i=true∧k=pb i
theorem ArAt.pg {w:World}{b:Nat}{F:Nat→Prop}{m:AM}{d:Lie}(h:ArAt w ⟨b,F,m⟩ d):(pgR 0 (Fp m.cap m.com d.pb) ⟨m.cap,m.com,m.mem,d.pb⟩).R w:=
  ⟨fun i h1 h2=>h.pw h1 h2,h.inj,fun k=>Iff.rfl⟩
section
variable {c:Cx}{n:Nat}{E:Env}{H:Heap}{a:Act}{w:World}
theorem WS.openA {b:Nat}{F:Nat→Prop}{m:AM}(h:WS c H [arR b F m] w):∃d:Lie,ArAt w ⟨b,F,m⟩ d∧
    WS c (H++[(b,.cells [sc d.bp 0 m.cap m.cap,vi (m.cap:Int),sc d.bw d.ow d.nw d.cw,vi (countTo m.com m.cap:Int),vb m.armed,vi (m.refuse:Int)] d.TA),(d.bp,.row d.TP m.cap m.cap (pagesV m.com d.pb 0)),(d.bw,.fn d.ow (d.ow+d.nw) (u64s d.ws d.ow))])
      [pgR 0 (Fp m.cap m.com d.pb) ⟨m.cap,m.com,m.mem,d.pb⟩] w∧(c.D d.bw∨c.w0.heap.size≤d.bw):=by
  obtain⟨d,hd⟩:∃d,ArAt w ⟨b,F,m⟩ d:=h.res 0;have hF:∀k,F k→¬(∃e∈H,e.1=k):=fun k hk ⟨e,he,e1⟩=>h.free e he (.inl (e1▸hk))
  have f1:F b:=(hd.foot b).2 (.inl rfl);have f2:F d.bp:=(hd.foot _).2 (.inr (.inl rfl));have f3:F d.bw:=(hd.foot _).2 (.inr (.inr (.inl rfl)));have fp:∀k,Fp m.cap m.com d.pb k→F k:=fun k ⟨i,h1,h2,h3⟩=>(hd.foot k).2 (.inr (.inr (.inr ⟨i,h1,h2,h3⟩)))
  have hmine:∀k,F k→c.w0.heap.size≤k∨c.D k:=fun k hk=>(h.fr.foot k (.inl hk)).symm
  have n4:=hd.ne4;refine⟨d,hd,⟨fun e he=>?_,?_,fun e he ho=>?_,fun e he hk=>?_,AllAr.one hd.pg,h.fr.to (fun k hk=>.inl hk) (fun k hk=>?_)⟩,(h.fr.foot _ (.inl f3))⟩
  · rcases List.mem_append.1 he with he|he
    · exact h.heap e he
    · simp only [List.mem_cons,List.not_mem_nil,or_false]at he
      rcases he with rfl|rfl|rfl
      · exact hd.hd
      · exact hd.pr
      · exact hd.wo
  · rw [List.pairwise_append]
    refine⟨h.apart,?_,fun p hp q hq ho e=>?_⟩
    · refine List.pairwise_cons.2 ⟨fun q hq=>?_,List.pairwise_cons.2 ⟨fun q hq=>?_,List.pairwise_singleton _ _⟩⟩
      · simp only [List.mem_cons,List.not_mem_nil,or_false]at hq
        rcases hq with rfl|rfl
        · exact fun _=>hd.ne1
        · exact fun _=>hd.ne2
      · simp only [List.mem_cons,List.not_mem_nil,or_false]at hq
        subst hq;exact fun _=>hd.ne3
    · simp only [List.mem_cons,List.not_mem_nil,or_false]at hq
      rcases hq with rfl|rfl|rfl
      · exact hF _ f1 ⟨p,hp,e⟩
      · exact hF _ f2 ⟨p,hp,e⟩
      · exact hF _ f3 ⟨p,hp,e⟩
  · rcases List.mem_append.1 he with he|he
    · exact h.mine e he ho
    · simp only [List.mem_cons,List.not_mem_nil,or_false]at he
      rcases he with rfl|rfl|rfl
      · exact hmine _ f1
      · exact hmine _ f2
      · cases ho
  · have hk:Fp m.cap m.com d.pb e.1:=hk.elim id (fun h=>h.elim)
    rcases List.mem_append.1 he with he|he
    · exact hF _ (fp _ hk) ⟨e,he,rfl⟩
    · obtain⟨i,h1,h2,h3⟩:=hk
      obtain⟨q1,q2,q3⟩:=n4 i h1 h2
      simp only [List.mem_cons,List.not_mem_nil,or_false]at he
      rcases he with rfl|rfl|rfl
      · exact q1 h3.symm
      · exact q2 h3.symm
      · exact q3 h3.symm
  · have hk:Fp m.cap m.com d.pb k:=hk.elim id (fun h=>h.elim)
    exact h.fr.foot k (.inl (fp k hk))
theorem ar_close {b bp bw ow nw cw cap cnt refuse:Nat}{armed:Bool}{TA TP:TypeId}{com:Nat→Bool}{mem:Nat→UInt8}{pb:Nat→Nat}{ws:Nat→Nat}{Fq:Nat→Prop}
    (h1:HE.holds w b (.cells [sc bp 0 cap cap,vi (cap:Int),sc bw ow nw cw,vi (cnt:Int),vb armed,vi (refuse:Int)] TA)) (h2:HE.holds w bp (.row TP cap cap (pagesV com pb 0))) (h3:HE.holds w bw (.fn ow (ow+nw) (u64s ws ow)))
    (hp:PgAt w Fq ⟨cap,com,mem,pb⟩) (hW:Words ws nw cap com) (hc:cnt=countTo com cap) (e1:b≠bp) (e2:bw≠b) (e3:bw≠bp) (n1:¬Fq b) (n2:¬Fq bp) (n3:¬Fq bw) (hcap:cap≤1048576) (hr:refuse<2^63):
    (arR b (fun k=>k=b∨k=bp∨k=bw∨Fq k) ⟨cap,com,mem,armed,refuse⟩).R w:=by
  obtain⟨c2,k1,k2,k3,k4⟩:=h2;obtain⟨c3,T,fz,k5,k6⟩:=h3;subst hc;refine⟨⟨bp,bw,ow,nw,cw,ws,pb,TA,TP⟩,h1,⟨c2,k1,k2,fun i hi=>k4 i hi⟩,⟨c3,T,fz,k5,fun j hj=>?_⟩,hW,fun i hi hc=>?_,e1,fun e=>e2 e.symm,fun e=>e3 e.symm,fun i hi hc=>?_,hp.inj,hcap,hr,fun k=>?_⟩
  · have hj:j<nw:=hj
    have:=k6 (ow+j) (by omega) (by omega)
    unfold u64s at this
    rw [show ow+j-ow=j by omega]at this;exact this
  · obtain⟨T,cc,q1,q2,_,q4⟩:=hp.page i hi hc
    exact⟨cc,T,q1,q2,fun o ho=>q4 o ho⟩
  · have hq:Fq (pb i):=(hp.foot _).2 ⟨i,hi,hc,rfl⟩
    exact⟨fun e=>n1 ((show pb i=b from e)▸hq),fun e=>n2 ((show pb i=bp from e)▸hq),fun e=>n3 ((show pb i=bw from e)▸hq)⟩
  · show(k=b∨k=bp∨k=bw∨Fq k)↔(k=b∨k=bp∨k=bw∨∃i,i<cap∧com i=true∧k=pb i)
    rw [hp.foot k]
theorem WS.closeA {cap cnt refuse:Nat}{com:Nat→Bool}{mem:Nat→UInt8}{pb:Nat→Nat}{Fq:Nat→Prop}(h:WS c H [pgR 0 Fq ⟨cap,com,mem,pb⟩] w)(ib ip iw:Nat)(b bp bw ow nw cw:Nat)(armed:Bool)(TA TP:TypeId)(ws:Nat→Nat)
    (hW:Words ws nw cap com) (hcap:cap≤1048576) (hr:refuse<2^63) (hbw:c.D bw∨c.w0.heap.size≤bw) (hc:cnt=countTo com cap)
    (hb:H[ib]? =some (b,.cells [sc bp 0 cap cap,vi (cap:Int),sc bw ow nw cw,vi (cnt:Int),vb armed,vi (refuse:Int)] TA):=by as_aux_lemma=>kernel_rfl)
    (hp:H[ip]? =some (bp,.row TP cap cap (pagesV com pb 0)):=by as_aux_lemma=>kernel_rfl) (hw:H[iw]? =some (bw,.fn ow (ow+nw) (u64s ws ow)):=by as_aux_lemma=>kernel_rfl) (hne:ib≠ip∧iw≠ib∧iw≠ip:=by decide):
    WS c [] [arR b (fun k=>k=b∨k=bp∨k=bw∨Fq k) ⟨cap,com,mem,armed,refuse⟩] w:=by
  have f:∀ {i g:Nat} {x:HE},H[i]? =some (g,x)→¬Fq g:=fun hi hq=>h.free _ (List.mem_of_getElem? hi) (.inl hq)
  refine⟨(fun e he=>nomatch he),List.Pairwise.nil,(fun e he=>nomatch he),(fun e he=>nomatch he),AllAr.one (ar_close (h.heap _ (List.mem_of_getElem? hb)) (h.heap _ (List.mem_of_getElem? hp)) (h.heap _ (List.mem_of_getElem? hw)) (h.res 0) hW hc
    (pairwise_get h.apart hne.1 hb hp (.inl rfl)) (pairwise_get h.apart hne.2.1 hw hb (.inr rfl)) (pairwise_get h.apart hne.2.2 hw hp (.inr rfl)) (f hb) (f hp) (f hw) hcap hr),h.fr.to (fun k hk=>.inl hk) (fun k hk=>?_)⟩
  have hk:k=b∨k=bp∨k=bw∨Fq k:=hk.elim id (fun h=>h.elim)
  rcases hk with rfl|rfl|rfl|hk
  · exact(h.mine _ (List.mem_of_getElem? hb) rfl).symm
  · exact(h.mine _ (List.mem_of_getElem? hp) rfl).symm
  · exact hbw
  · exact h.fr.foot k (.inl hk)
def putPg (mem:Nat→UInt8)(i:Nat)(g:Nat→UInt8)(x:Nat):UInt8:=if 4096*i≤x∧x<4096*i+4096 then g (x-4096*i)else mem x
def setB (com:Nat→Bool)(i:Nat)(v:Bool)(x:Nat):Bool:=if x=i then v else com x
def putN (pb:Nat→Nat)(i v:Nat)(x:Nat):Nat:=if x=i then v else pb x
theorem putPg_at (mem:Nat→UInt8)(i:Nat)(g:Nat→UInt8){o:Nat}(ho:o<4096):putPg mem i g (4096*i+o)=g o:=by
  unfold putPg
  rw [if_pos (by omega),Nat.add_sub_cancel_left]
theorem putPg_ne (mem:Nat→UInt8){i j:Nat}(g:Nat→UInt8){o:Nat}(ho:o<4096)(hij:j≠i):putPg mem i g (4096*j+o)=mem (4096*j+o):=by
  unfold putPg
  rw [if_neg (by omega)]
theorem row_bytes {b:Nat}{T:TypeId}{f g:Nat→UInt8}(h:HE.holds w b (.row T 4096 4096 (bytes f 0)))(e:∀o,o<4096→g o=f o):HE.holds w b (.row T 4096 4096 (bytes g 0)):=
  HE.row_eq h fun o ho=>by unfold bytes;rw [Nat.sub_zero,e o ho]
theorem WS.absorb {cap:Nat}{com:Nat→Bool}{mem:Nat→UInt8}{pb:Nat→Nat}{Fq:Nat→Prop}(h:WS c H [pgR 0 Fq ⟨cap,com,mem,pb⟩] w)(j g i:Nat)(T:TypeId)(f:Nat→UInt8)(l:List Nat){H':Heap}(hi:i<cap)(hc:com i=false)
    (hp:pickH H l=some H':=by as_aux_lemma=>kernel_rfl) (hj:H[j]? =some (g,.row T 4096 4096 (bytes f 0)):=by as_aux_lemma=>kernel_rfl) (hd:distinct l=true:=by decide) (hnl:l.all (fun k=> !Nat.beq k j)=true:=by decide):
    WS c H' [pgR 0 (fun k=>Fq k∨k=g) ⟨cap,setB com i true,putPg mem i f,putN pb i g⟩] w:=by
  have hq:=h.perm l hp hd;have hne:=pick_ne h hp hj rfl hnl;have P:PgAt w Fq ⟨cap,com,mem,pb⟩:=h.res 0;have hg:=h.heap _ (List.mem_of_getElem? hj);have ng:¬Fq g:=fun hk=>h.free _ (List.mem_of_getElem? hj) (.inl hk)
  have other:∀x,x<cap→com x=true→pb x≠g:=fun x h1 h2 e=>ng ((P.foot g).2 ⟨x,h1,h2,e.symm⟩)
  refine⟨hq.heap,hq.apart,hq.mine,fun e he hk=>?_,AllAr.one ⟨fun x hx hcx=>?_,fun x y hx hcx hy hcy e=>?_,fun k=>?_⟩,h.fr.to (fun k hk=>.inl hk) (fun k hk=>?_)⟩
  · rcases hk with hk|hk
    · rcases hk with hk|hk
      · exact hq.free e he (.inl hk)
      · exact hne e he hk
    · exact hk
  · have hcx:setB com i true x=true:=hcx
    by_cases hxi:x=i
    · subst hxi
      refine⟨T,?_⟩
      show HE.holds w (putN pb x g x) _
      rw [show putN pb x g x=g from if_pos rfl];exact row_bytes hg fun o ho=>putPg_at _ _ _ ho
    · have h2:com x=true:=by unfold setB at hcx;rwa [if_neg hxi]at hcx
      obtain⟨T',h3⟩:=P.page x hx h2;refine⟨T',?_⟩
      show HE.holds w (putN pb i g x) _
      rw [show putN pb i g x=pb x from if_neg hxi];exact row_bytes h3 fun o ho=>putPg_ne _ _ ho hxi
  · have hcx:setB com i true x=true:=hcx
    have hcy:setB com i true y=true:=hcy;have e:putN pb i g x=putN pb i g y:=e
    unfold setB at hcx hcy
    unfold putN at e
    by_cases hxi:x=i<;>by_cases hyi:y=i
    · omega
    · rw [if_pos hxi,if_neg hyi]at e
      rw [if_neg hyi]at hcy;exact absurd e.symm (other y hy hcy)
    · rw [if_neg hxi,if_pos hyi]at e
      rw [if_neg hxi]at hcx;exact absurd e (other x hx hcx)
    · rw [if_neg hxi,if_neg hyi]at e
      rw [if_neg hxi]at hcx;rw [if_neg hyi]at hcy;exact P.inj x y hx hcx hy hcy e
  · show(Fq k∨k=g)↔∃x,x<cap∧setB com i true x=true∧k=putN pb i g x
    constructor
    · rintro(hk|rfl)
      · obtain⟨x,h1,h2,h3⟩:=(P.foot k).1 hk
        have h2:com x=true:=h2;have hxi:x≠i:=fun e=>by rw [e,hc]at h2;cases h2
        exact⟨x,h1,by unfold setB;rw [if_neg hxi];exact h2,by unfold putN;rw [if_neg hxi];exact h3⟩
      · exact⟨i,hi,by unfold setB;rw [if_pos rfl],by unfold putN;rw [if_pos rfl]⟩
    · rintro⟨x,h1,h2,h3⟩
      by_cases hxi:x=i
      · right;rw [h3];unfold putN;rw [if_pos hxi]
      · left
        unfold setB at h2;unfold putN at h3
        rw [if_neg hxi]at h2 h3;exact(P.foot k).2 ⟨x,h1,h2,h3⟩
  · have hk:Fq k∨k=g:=hk.elim id (fun h=>h.elim)
    rcases hk with hk|rfl
    · exact h.fr.foot k (.inl hk)
    · exact(h.mine _ (List.mem_of_getElem? hj) rfl).symm
theorem WS.take {cap:Nat}{com:Nat→Bool}{mem:Nat→UInt8}{pb:Nat→Nat}{Fq:Nat→Prop}(h:WS c H [pgR 0 Fq ⟨cap,com,mem,pb⟩] w)(i:Nat)(hi:i<cap)(hc:com i=true):
    ∃T,WS c (H++[(pb i,.row T 4096 4096 (bytes (fun o=>mem (4096*i+o)) 0))]) [pgR 0 (fun k=>Fq k∧k≠pb i) ⟨cap,setB com i false,mem,pb⟩] w:=by
  have P:PgAt w Fq ⟨cap,com,mem,pb⟩:=h.res 0;obtain⟨T,hT⟩:=P.page i hi hc;have hF:Fq (pb i):=(P.foot _).2 ⟨i,hi,hc,rfl⟩;refine⟨T,fun e he=>?_,?_,fun e he ho=>?_,fun e he hk=>?_,AllAr.one ⟨fun x hx hcx=>?_,fun x y hx hcx hy hcy e=>?_,fun k=>?_⟩,h.fr.to (fun k hk=>.inl hk) (fun k hk=>?_)⟩
  · rcases List.mem_append.1 he with he|he
    · exact h.heap e he
    · obtain rfl:=List.mem_singleton.1 he;exact hT
  · rw [List.pairwise_append]
    refine⟨h.apart,List.pairwise_singleton _ _,fun p hp q hq ho e=>?_⟩;obtain rfl:=List.mem_singleton.1 hq;exact h.free p hp (.inl (e▸hF))
  · rcases List.mem_append.1 he with he|he
    · exact h.mine e he ho
    · obtain rfl:=List.mem_singleton.1 he
      exact(h.fr.foot _ (.inl hF)).symm
  · rcases hk with hk|hk
    · rcases List.mem_append.1 he with he|he
      · exact h.free e he (.inl hk.1)
      · obtain rfl:=List.mem_singleton.1 he;exact hk.2 rfl
    · exact hk
  · have hcx:setB com i false x=true:=hcx
    unfold setB at hcx
    split at hcx
    · cases hcx
    · exact P.page x hx hcx
  · have hcx:setB com i false x=true:=hcx
    have hcy:setB com i false y=true:=hcy
    unfold setB at hcx hcy
    split at hcx
    · cases hcx
    · split at hcy
      · cases hcy
      · exact P.inj x y hx hcx hy hcy e
  · show(Fq k∧k≠pb i)↔∃x,x<cap∧setB com i false x=true∧k=pb x
    constructor
    · rintro⟨hk,hne⟩
      obtain⟨x,h1,h2,h3⟩:=(P.foot k).1 hk;have hxi:x≠i:=fun e=>hne (by rw [←e];exact h3)
      exact⟨x,h1,by unfold setB;rw [if_neg hxi];exact h2,h3⟩
    · rintro⟨x,h1,h2,h3⟩
      unfold setB at h2
      split at h2
      · cases h2
      · rename_i hxi
        refine⟨(P.foot k).2 ⟨x,h1,h2,h3⟩,fun e=>hxi ?_⟩;exact P.inj x i h1 h2 hi hc (h3.symm.trans e)
  · have hk:Fq k∧k≠pb i:=hk.elim id (fun h=>h.elim)
    exact h.fr.foot k (.inl hk.1)
theorem WS.less {cap:Nat}{com com':Nat→Bool}{mem:Nat→UInt8}{pb:Nat→Nat}{Fq:Nat→Prop}(h:WS c H [pgR 0 Fq ⟨cap,com,mem,pb⟩] w)(hc:∀i,i<cap→com' i=true→com i=true):WS c H [pgR 0 (Fp cap com' pb) ⟨cap,com',mem,pb⟩] w:=by
  have P:PgAt w Fq ⟨cap,com,mem,pb⟩:=h.res 0;have hs:∀k,Fp cap com' pb k→Fq k:=fun k ⟨i,h1,h2,h3⟩=>(P.foot k).2 ⟨i,h1,hc i h1 h2,h3⟩
  exact⟨h.heap,h.apart,h.mine,fun e he hk=>h.free e he (.inl (hs _ (hk.elim id (fun h=>h.elim)))),AllAr.one ⟨fun i h1 h2=>P.page i h1 (hc i h1 h2),fun i j h1 h2 h3 h4=>P.inj i j h1 (hc i h1 h2) h3 (hc j h3 h4),fun k=>Iff.rfl⟩,
    h.fr.to (fun k hk=>.inl hk) (fun k hk=>h.fr.foot k (.inl (hs _ (hk.elim id (fun h=>h.elim)))))⟩
theorem WS.same {cap:Nat}{com com':Nat→Bool}{mem mem':Nat→UInt8}{pb pb':Nat→Nat}{Fq:Nat→Prop}(h:WS c H [pgR 0 Fq ⟨cap,com,mem,pb⟩] w)(hc:∀i,i<cap→com' i=com i)(hm:∀x,x<4096*cap→mem' x=mem x)(hp:∀i,i<cap→com i=true→pb' i=pb i):WS c H [pgR 0 Fq ⟨cap,com',mem',pb'⟩] w:=by
  have P:PgAt w Fq ⟨cap,com,mem,pb⟩:=h.res 0;have hcc:∀i,i<cap→com' i=true→com i=true:=fun i hi h=>(hc i hi)▸h
  refine⟨h.heap,h.apart,h.mine,fun e he hk=>h.free e he (.inl (hk.elim id (fun h=>h.elim))),AllAr.one ⟨fun i h1 h2=>?_,fun i j h1 h2 h3 h4 e=>?_,fun k=>?_⟩,h.fr.to (fun k hk=>.inl hk) (fun k hk=>h.fr.foot k (.inl (hk.elim id (fun h=>h.elim))))⟩
  · obtain⟨T,hT⟩:=P.page i h1 (hcc i h1 h2)
    refine⟨T,?_⟩
    show HE.holds w (pb' i) _
    rw [hp i h1 (hcc i h1 h2)];exact row_bytes hT fun o ho=>hm _ (by have h1:i<cap:=h1;omega)
  · have e:pb' i=pb' j:=e
    rw [hp i h1 (hcc i h1 h2),hp j h3 (hcc j h3 h4)]at e;exact P.inj i j h1 (hcc i h1 h2) h3 (hcc j h3 h4) e
  · rw [P.foot k]
    constructor
    · rintro⟨i,h1,h2,h3⟩
      exact⟨i,h1,(hc i h1).trans h2,h3.trans (hp i h1 h2).symm⟩
    · rintro⟨i,h1,h2,h3⟩
      exact⟨i,h1,hcc i h1 h2,h3.trans (hp i h1 (hcc i h1 h2))⟩
end
theorem cntR_plus (p:Nat→Bool):∀(n f k:Nat),cntR p f (n+k)=cntR p f n+cntR p (f+n) k
  |0,f,k=>by rw [Nat.zero_add,Nat.add_zero];show _=0+_;omega
  |n+1,f,k=>by
    rw [show n+1+k=(n+k)+1 by omega]
    show(if p f then 1 else 0)+cntR p (f+1) (n+k)=(if p f then 1 else 0)+cntR p (f+1) n+_
    rw [cntR_plus p n (f+1) k,show f+(n+1)=f+1+n by omega];omega
theorem cntR_same {p q:Nat→Bool} :∀(n f:Nat),(∀x,f≤x→x<f+n→p x=q x)→cntR p f n=cntR q f n
  |0,f,h=>rfl
  |n+1,f,h=>by
    show(if p f then 1 else 0)+cntR p (f+1) n=(if q f then 1 else 0)+cntR q (f+1) n
    rw [h f (by omega) (by omega),cntR_same n (f+1) fun x h1 h2=>h x (by omega) (by omega)]
theorem cntR_all {b:Bool}{p:Nat→Bool} :∀(n f:Nat),(∀x,f≤x→x<f+n→p x=b)→cntR p f n=if b then n else 0
  |0,f,h=>by cases b<;>rfl
  |n+1,f,h=>by
    show(if p f then 1 else 0)+cntR p (f+1) n=_
    rw [h f (by omega) (by omega),cntR_all n (f+1) fun x h1 h2=>h x (by omega) (by omega)]
    cases b<;>simp;omega
theorem cntR_zero {p:Nat→Bool} :∀(n f:Nat),cntR p f n=0→∀x,f≤x→x<f+n→p x=false
  |0,f,_,x,h1,h2=>by omega
  |n+1,f,h,x,h1,h2=>by
    have h:(if p f then 1 else 0)+cntR p (f+1) n=0:=h;have h3:cntR p (f+1) n=0:=by omega
    by_cases e:x=f
    · subst e
      cases hp:p x with
      |false=>rfl
      |true=>rw [hp]at h;simp at h
    · exact cntR_zero n (f+1) h3 x (by omega) (by omega)
theorem cntR_full {p:Nat→Bool} :∀(n f:Nat),cntR p f n=n→∀x,f≤x→x<f+n→p x=true
  |0,f,_,x,h1,h2=>by omega
  |n+1,f,h,x,h1,h2=>by
    have h:(if p f then 1 else 0)+cntR p (f+1) n=n+1:=h;have h4:=cntR_le p n (f+1);have h3:cntR p (f+1) n=n:=by split at h<;>omega
    by_cases e:x=f
    · subst e
      cases hp:p x with
      |true=>rfl
      |false=>rw [hp]at h;simp at h;omega
    · exact cntR_full n (f+1) h3 x (by omega) (by omega)
theorem countTo_cntR (p:Nat→Bool)(n:Nat):countTo p n=cntR p 0 n:=by
  induction n with
  |zero=>rfl
  |succ n ih=>
    rw [cntR_plus p n 0 1]
    show countTo p n+(if p n then 1 else 0)=_
    rw [ih,Nat.zero_add]
    show _=_+((if p n then 1 else 0)+0)
    omega
theorem cnt_setR {p:Nat→Bool}{cap f n:Nat}{b:Bool}(h:f+n≤cap)(hp:∀x,f≤x→x<f+n→p x= !b):(countTo (setR p f n b) cap:Int)=if b then(countTo p cap:Int)+n else(countTo p cap:Int)-n:=by
  have e:cap=f+(n+(cap-f-n)):=by omega
  rw [countTo_cntR,countTo_cntR,e,cntR_plus,cntR_plus,cntR_plus p,cntR_plus p]
  rw [cntR_same (p:=setR p f n b) (q:=p) f 0 (fun x h1 h2=>by unfold setR;rw [if_neg (by omega)]),cntR_same (p:=setR p f n b) (q:=p) (cap-f-n) (0+f+n) (fun x h1 h2=>by unfold setR;rw [if_neg (by omega)]),
    cntR_all (b:=b) (p:=setR p f n b) n (0+f) (fun x h1 h2=>by unfold setR;rw [if_pos (by omega)]),cntR_all (b:= !b) (p:=p) n (0+f) (fun x h1 h2=>hp x (by omega) (by omega))]
  cases b<;>simp<;>omega
def zeroP (mem:Nat→UInt8)(f n:Nat)(x:Nat):UInt8:=if 4096*f≤x∧x<4096*(f+n)then 0 else mem x
def comE (m:AM)(f n:Int):Int:=if rowE m f n≠0 then rowE m f n else if 0<rowC m f n then 9 else if m.armed=true∧m.refuse=0 then 4 else 0
def comM (m:AM)(f n:Int):AM:=if rowE m f n≠0∨0<rowC m f n then m else if m.armed=true∧m.refuse=0 then { m with armed:=false } else⟨m.cap,setR m.com f.toNat n.toNat true,zeroP m.mem f.toNat n.toNat,m.armed,m.refuse-1⟩
def decE (m:AM)(f n:Int):Int:=if rowE m f n≠0 then rowE m f n else if rowC m f n<n then 8 else 0
def decM (m:AM)(f n:Int):AM:=if rowE m f n≠0∨rowC m f n<n then m else { m with com:=setR m.com f.toNat n.toNat false }
def refM (m:AM)(n:Int):AM:= { m with armed:=true,refuse:=(imax 0 n).toNat }
theorem refuse_dec (r:Nat):imax 0 ((r:Int)-1)=((r-1:Nat):Int):=by unfold imax;split<;>omega
theorem refuse_set (n:Int):imax 0 n=(((imax 0 n).toNat:Nat):Int):=by unfold imax;split<;>omega
theorem row_facts {m:AM}{f n:Int}(h:rowE m f n=0):1≤n∧0≤f∧f+n≤(m.cap:Int)∧wth m.cap f n=true∧rowC m f n=((cntR m.com f.toNat n.toNat:Nat):Int):=by
  unfold rowE at h
  split at h
  · omega
  · rename_i hn
    have hw:=trnE_wth h;obtain⟨h1,h2,h3⟩:=wth_facts hw;exact⟨by omega,h1,by omega,hw,by rw [rowC_ge (by omega)];exact cntV_yes hw⟩
theorem com_free {m:AM}{f n:Int}(h:rowE m f n=0)(hc:rowC m f n≤0):∀x,f.toNat≤x→x<f.toNat+n.toNat→m.com x=false:=by
  obtain⟨h1,h2,h3,h4,h5⟩:=row_facts h;exact cntR_zero _ _ (by omega)
theorem com_full {m:AM}{f n:Int}(h:rowE m f n=0)(hc:n≤rowC m f n):∀x,f.toNat≤x→x<f.toNat+n.toNat→m.com x=true:=by
  obtain⟨h1,h2,h3,h4,h5⟩:=row_facts h;have:=cntR_le m.com n.toNat f.toNat;exact cntR_full _ _ (by omega)
theorem comX_step {p:Nat→Bool}{f x:Int}(h0:0≤f)(h1:f≤x):setB (setR p f.toNat (x-f).toNat true) x.toNat true=setR p f.toNat (x+1-f).toNat true:=by
  funext y
  unfold setB setR
  by_cases h:y=x.toNat
  · rw [if_pos h,if_pos (by omega)]
  · rw [if_neg h]
    by_cases h2:f.toNat≤y∧y<f.toNat+(x-f).toNat
    · rw [if_pos h2,if_pos (by omega)]
    · rw [if_neg h2,if_neg (by omega)]
theorem memX_step {mem:Nat→UInt8}{f x:Int}(h0:0≤f)(h1:f≤x):putPg (zeroP mem f.toNat (x-f).toNat) x.toNat (fun _=>0)=zeroP mem f.toNat (x+1-f).toNat:=by
  funext y
  unfold putPg zeroP
  by_cases h:4096*x.toNat≤y∧y<4096*x.toNat+4096
  · rw [if_pos h,if_pos (by omega)]
  · rw [if_neg h]
    by_cases h2:4096*f.toNat≤y∧y<4096*(f.toNat+(x-f).toNat)
    · rw [if_pos h2,if_pos (by omega)]
    · rw [if_neg h2,if_neg (by omega)]
theorem setR_none (p:Nat→Bool)(f:Nat)(b:Bool):setR p f 0 b=p:=by
  funext y;unfold setR;rw [if_neg (by omega)]
theorem zeroP_none (mem:Nat→UInt8)(f:Nat):zeroP mem f 0=mem:=by
  funext y;unfold zeroP;rw [if_neg (by omega)]
theorem pagesV_putv (com:Nat→Bool)(pb:Nat→Nat)(i v o:Nat):pagesV (setB com i true) (putN pb i v) 0 o=if o=i then Value.pointer (some ⟨v,0,none⟩)else pagesV com pb 0 o:=by
  unfold pagesV setB putN
  simp only [Nat.sub_zero]
  by_cases h:o=i
  · simp [h]
  · simp [h]
theorem pagesV_abs (com:Nat→Bool)(pb:Nat→Nat)(i:Nat):pagesV com pb 0 i=.pointer (if com i then some ⟨pb i,0,none⟩else none):=rfl
theorem com_no {m:AM}{f n:Int}(h:rowE m f n≠0∨0<rowC m f n):m=comM m f n:=by unfold comM;rw [if_pos h]
theorem com_ref {m:AM}{f n:Int}(h:rowE m f n=0)(hc:rowC m f n≤0)(ha:m.armed=true)(hr:m.refuse=0):({ m with armed:=false } :AM)=comM m f n:=by
  unfold comM;rw [if_neg (by omega),if_pos ⟨ha,hr⟩]
theorem com_yes {m:AM}{f n:Int}(h:rowE m f n=0)(hc:rowC m f n≤0)(ha:¬(m.armed=true∧m.refuse=0)):(⟨m.cap,setR m.com f.toNat n.toNat true,zeroP m.mem f.toNat n.toNat,m.armed,m.refuse-1⟩:AM)=comM m f n:=by
  unfold comM;rw [if_neg (by omega),if_neg ha]
theorem dec_no {m:AM}{f n:Int}(h:rowE m f n≠0∨rowC m f n<n):m=decM m f n:=by unfold decM;rw [if_pos h]
theorem dec_yes {m:AM}{f n:Int}(h:rowE m f n=0)(hc:n≤rowC m f n):({ m with com:=setR m.com f.toNat n.toNat false } :AM)=decM m f n:=by unfold decM;rw [if_neg (by omega)]
theorem setR_sub {p:Nat→Bool}{f n i:Nat}(h:setR p f n false i=true):p i=true:=by unfold setR at h;split at h;cases h;exact h
theorem countTo_le (p:Nat→Bool)(n:Nat):countTo p n≤n:=by rw [countTo_cntR];exact cntR_le p n 0
theorem add_nat {a:Nat}{n:Int}(h:0≤n):(a:Int)+n=((a+n.toNat:Nat):Int):=by omega
theorem com_next {m:AM}{f n x:Int}(h:rowE m f n=0)(h1:f≤x)(h2:x<f+n)(hf:∀x,f.toNat≤x→x<f.toNat+n.toNat→m.com x=false):setR m.com f.toNat (x-f).toNat true x.toNat=false:=by
  obtain⟨q1,q2,q3,_⟩:=row_facts h
  unfold setR
  rw [if_neg (by omega)];exact hf _ (by omega) (by omega)
theorem cnt_up {m:AM}{f n:Int}(h:rowE m f n=0)(hc:rowC m f n≤0):countTo m.com m.cap+n.toNat=countTo (setR m.com f.toNat n.toNat true) m.cap:=by
  obtain⟨q1,q2,q3,_⟩:=row_facts h;have:=cnt_setR (p:=m.com) (cap:=m.cap) (f:=f.toNat) (n:=n.toNat) (b:=true) (by omega) (com_free h hc);rw [if_pos rfl]at this;omega
theorem cnt_down {m:AM}{f n:Int}(h:rowE m f n=0)(hc:n≤rowC m f n):countTo m.com m.cap-n.toNat=countTo (setR m.com f.toNat n.toNat false) m.cap∧n.toNat≤countTo m.com m.cap:=by
  obtain⟨q1,q2,q3,_⟩:=row_facts h;have:=cnt_setR (p:=m.com) (cap:=m.cap) (f:=f.toNat) (n:=n.toNat) (b:=false) (by omega) (com_full h hc);rw [if_neg (by decide)]at this;omega
theorem com_e1 {m:AM}{f n:Int}(h:rowE m f n≠0):comE m f n=rowE m f n:=by unfold comE;rw [if_pos h]
theorem com_e2 {m:AM}{f n:Int}(h:rowE m f n=0)(hc:0<rowC m f n):comE m f n=9:=by unfold comE;rw [if_neg (by omega),if_pos hc]
theorem com_e3 {m:AM}{f n:Int}(h:rowE m f n=0)(hc:rowC m f n≤0)(ha:m.armed=true)(hr:m.refuse=0):comE m f n=4:=by unfold comE;rw [if_neg (by omega),if_neg (by omega),if_pos ⟨ha,hr⟩]
theorem com_e4 {m:AM}{f n:Int}(h:rowE m f n=0)(hc:rowC m f n≤0)(ha:¬(m.armed=true∧m.refuse=0)):comE m f n=0:=by unfold comE;rw [if_neg (by omega),if_neg (by omega),if_neg ha]
theorem dec_e1 {m:AM}{f n:Int}(h:rowE m f n≠0):decE m f n=rowE m f n:=by unfold decE;rw [if_pos h]
theorem dec_e2 {m:AM}{f n:Int}(h:rowE m f n=0)(hc:rowC m f n<n):decE m f n=8:=by unfold decE;rw [if_neg (by omega),if_pos hc]
theorem dec_e3 {m:AM}{f n:Int}(h:rowE m f n=0)(hc:n≤rowC m f n):decE m f n=0:=by unfold decE;rw [if_neg (by omega),if_neg (by omega)]
def bs (f:Nat→UInt8)(n:Nat):ByteArray:=⟨((List.range n).map f).toArray⟩
def sb (s:ByteArray)(i:Nat):UInt8:=s.data.toList.getD i 0
theorem bs_size (f:Nat→UInt8)(n:Nat):(bs f n).size=n:=by unfold bs;simp [ByteArray.size]
theorem bs_congr {f g:Nat→UInt8}{n:Nat}(h:∀i,i<n→f i=g i):bs f n=bs g n:=by
  unfold bs;congr 2;exact List.map_congr_left fun i hi=>h i (List.mem_range.1 hi)
theorem sb_bs {f:Nat→UInt8}{n i:Nat}(h:i<n):sb (bs f n) i=f i:=by
  unfold sb bs;simp [List.getD_eq_getElem?_getD,h]
theorem bs_sb (s:ByteArray):bs (sb s) s.size=s:=by
  unfold bs sb
  apply ByteArray.ext
  apply Array.ext
  · simp
  · intro i h1 h2
    have:i<s.data.size:=h2
    simp only [List.getElem_toArray,List.getElem_map,List.getElem_range,List.getD_eq_getElem?_getD,Array.getElem?_toList]
    rw [Array.getElem?_eq_getElem this];rfl
theorem Fr.setRow {w:World}{b:Nat}(cs:Array Value):Fr w (w.setRow b cs) (K.one b) no:=
  ⟨rfl,rfl,rfl,by simp [World.setRow],fun k _ hk=>setRow_other w b k cs hk,fun k hk=>hk.elim⟩
def segV (f:Nat→Value)(o n:Nat)(g:Nat→Value)(x:Nat):Value:=if o≤x∧x<o+n then g (x-o)else f x
theorem row_seg {w:World}{b:Nat}{e:TypeId}{m tot:Nat}{f g:Nat→Value}{o n:Nat}{cur:Array Value}(hc:w.heap[b]? =some (.cells cur e (0,0)))(hsz:cur.size=tot)(hmt:m≤tot)(hf:∀x,x<m→cur[x]? =some (f x))(hon:o+n≤m)(vs:List Value)(hl:vs.length=n)(hg:∀j,j<n→vs[j]? =some (g j)):
    HE.holds (w.setRow b (cur.toList.take o++vs++cur.toList.drop (o+n)).toArray) b (.row e m tot (segV f o n g)):=by
  refine⟨_,setRow_heap w b cur _ e (0,0) hc,?_,hmt,fun x hx=>?_⟩
  · have:cur.toList.length=tot:=by simpa using hsz
    simp only [List.size_toArray,List.length_append,List.length_take,List.length_drop,hl,this]
    omega
  · have hcl:cur.toList.length=tot:=by simpa using hsz
    rw [List.getElem?_toArray]
    unfold segV
    by_cases h1:x<o
    · rw [if_neg (by omega),List.append_assoc,List.getElem?_append_left (by simp [hcl];omega),List.getElem?_take_of_lt h1,Array.getElem?_toList]
      exact hf x hx
    · rw [List.append_assoc,List.getElem?_append_right (by simp [hcl];omega),List.length_take,hcl,show min o tot=o by omega]
      by_cases h2:x<o+n
      · rw [if_pos ⟨by omega,h2⟩,List.getElem?_append_left (by omega)]
        exact hg _ (by omega)
      · rw [if_neg (by omega),List.getElem?_append_right (by omega),hl,List.getElem?_drop,show o+n+(x-o-n)=x by omega,Array.getElem?_toList]
        exact hf x hx
section
variable {P:Program}{c:Cx}{n:Nat}{E:Env}{H:Heap}{A:List Res}{a:Act}{w:World}{K:Act→World→Prop}{o:Oper}
theorem clear_run {x:Operand}{ts:Array TypeId}(ho:o.op=.call { callee:=.builtin .clear,args:=#[x],argTypes:=ts }){v:Value}{w':World}(hr:(Builtin.clear_ ts o.type #[a.eval x]).run P w=.ok v w'):(execOp a.eval o).run P w=.ok (.value v) w':=by
  unfold execOp
  simp only [ho,resolve,invoke,builtin,Sem.run_bind,Sem.run_pure,Result.andThen_ok,List.map_toArray,List.map_cons,List.map_nil,hr]
theorem copy_run {x y:Operand}{ts:Array TypeId}(ho:o.op=.call { callee:=.builtin .copy,args:=#[x,y],argTypes:=ts }){v:Value}{w':World}(hr:(Builtin.copy_ ts o.type #[a.eval x,a.eval y]).run P w=.ok v w'):(execOp a.eval o).run P w=.ok (.value v) w':=by
  unfold execOp
  simp only [ho,resolve,invoke,builtin,Sem.run_bind,Sem.run_pure,Result.andThen_ok,List.map_toArray,List.map_cons,List.map_nil,hr]
theorem append_run {x y:Operand}{ts:Array TypeId}(ho:o.op=.call { callee:=.builtin .append,args:=#[x,y],argTypes:=ts }){v:Value}{w':World}(hr:(Builtin.append_ ts o.type #[a.eval x,a.eval y]).run P w=.ok v w'):(execOp a.eval o).run P w=.ok (.value v) w':=by
  unfold execOp
  simp only [ho,resolve,invoke,builtin,Sem.run_bind,Sem.run_pure,Result.andThen_ok,List.map_toArray,List.map_cons,List.map_nil,hr]
theorem eval1 {x:Operand}(hS:St c n E H A a w)(hok:okO E [] x=true):a.eval x=rho E x:=agree_eval (C:=[]) hS.env (fun p hp=>nomatch hp) hok
theorem St.clearR (hS:St c n E H A a w)(x:Operand)(t:TypeId)(ho:o.op=.call { callee:=.builtin .clear,args:=#[x],argTypes:=#[t] })(hd:o.dst=none){e:TypeId}{z:Value}{i:TypeInfo}(ht:P.underlying t=some (.slice e))(hi:P.info? e=some i)(hz:i.zero=some z)(h1:i.size=1)(hz1:z.cells=#[z])(hz2:z.oneCell'=true)
    {b off k cp m tot:Nat} {e2:TypeId} {f:Nat→Value} (j:Nat) (hk:0<k) (hkm:off+k≤m) (h:∀w',St c n E (H.set j (b,.row e2 m tot (segV f off k (fun _=>z)))) A a w'→K a w')
    (hok:okO E [] x=true:=by as_aux_lemma=>kernel_rfl) (hx:rho E x=.slice (some ⟨b,off,none⟩) k cp:=by as_aux_lemma=>kernel_rfl) (hj:H[j]? =some (b,.row e2 m tot f):=by as_aux_lemma=>kernel_rfl):Runs1 P o a w K:=by
  obtain⟨cur,hc,hsz,hmt,hf⟩:=hS.mem.heap _ (List.mem_of_getElem? hj);have hv:∀w,(zeroValue e).run P w=.ok z w:=fun w=>by simp [zeroValue,typeInfo,program,bind,Sem.bind,Sem.run,hi,hz,pure]
  have hcell:∀y,y<m→w.cell? ⟨b,y,none⟩=some (f y):=fun y hy=>by unfold World.cell?;simp only [hc];exact hf y hy
  have hzc:(Builtin.zeroCells z.cells k).toList=List.replicate k z:=by
    rw [hz1]
    simp [Builtin.zeroCells]
    apply List.ext_getElem
    · simp
    · intro i h1 h2;simp [Nat.mod_one]
  have hst:=run_storeCells_at P b off e2 (List.replicate k z) 0 cur w hc (by simp;omega) (by intro v hv';rw [List.eq_of_mem_replicate hv'];exact hz2)
  have hr:(Builtin.clear_ #[t] o.type #[.slice (some ⟨b,off,none⟩) k cp]).run P w=.ok (.tuple #[]) (w.setRow b (cur.toList.take off++List.replicate k z++cur.toList.drop (off+k)).toArray):=by
    obtain⟨q,rfl⟩:∃q,k=q+1:=⟨k-1,by omega⟩
    simp only [Nat.add_zero,List.length_replicate]at hst
    simp [Builtin.clear_,run_underlying ht,hv,hzc,hst]
  refine⟨_,_,clear_run ho (v:=.tuple #[]) (by rw [eval1 hS hok,hx];exact hr),?_⟩
  · rw [hd]
    have hh:=row_seg (n:=k) (o:=off) (g:=fun _=>z) hc hsz hmt hf hkm (List.replicate k z) (by simp) (fun q hq=>by simp [hq]);exact h _ (hS.to (hS.mem.stepM j hj rfl rfl hh (Fr.setRow _)))
theorem run_copy_str (w:World)(dT sT ty elem:TypeId)(g off dLen dCap:Nat)(s:ByteArray)(cur:Array Value)(t:TypeId)
    (hu:P.underlying dT=some (.slice elem)) (hs:(P.info? elem).map (·.size)=some 1) (hg:w.heap[g]? =some (.cells cur t (0,0))) (hfit:off+min s.size dLen≤cur.size):
    (Builtin.copy_ #[dT,sT] ty #[.slice (some ⟨g,off,none⟩) dLen dCap,.string s]).run P w=
        .ok (goInt ((min s.size dLen:Nat):Int)) (w.setRow g (cur.toList.take off++(Lib.byteCells s.data.toList).take (min s.size dLen)++cur.toList.drop (off+min s.size dLen)).toArray):=by
  have hlen:(Lib.byteCells s.data.toList).length=s.size:=by rw [Lib.byteCells_length];simp
  have hl2:((Lib.byteCells s.data.toList).take (min s.size dLen)).length=min s.size dLen:=by rw [List.length_take,hlen];omega
  have hst:=run_storeCells_at P g off t ((Lib.byteCells s.data.toList).take (min s.size dLen)) 0 cur w hg (by rw [hl2];simpa using hfit) (fun v hv=>Lib.byteCells_one _ v (List.mem_of_mem_take hv));rw [hl2]at hst
  simp only [Nat.add_zero]at hst
  have e1:Nat.min s.size dLen=min s.size dLen:=rfl
  cases hq:P.info? elem with
  |none=>simp [hq]at hs
  |some i=>
    simp [Builtin.copy_,run_underlying hu,Builtin.lenOf,Builtin.firstCells,sizeOf,typeInfo,hq]
    rw [show List.take (min s.size dLen) (List.map (fun b:UInt8=>Value.int IntKind.u8 (b.toNat:Int)) s.data.toList)=(Lib.byteCells s.data.toList).take (min s.size dLen)from rfl];rw [e1,hst]
    simp only [Result.andThen,List.append_assoc]
theorem St.copyS (hS:St c n E H A a w)(x y:Operand)(t t2:TypeId)(ho:o.op=.call { callee:=.builtin .copy,args:=#[x,y],argTypes:=#[t,t2] }){d:Nat}(hd:o.dst=some d)(hdn:d<n){e e2:TypeId}{i:TypeInfo}{z:Value}(ht:P.underlying t=some (.slice e))(hi:P.info? e=some i)(hz:i.zero=some z)(h1:i.size=1)
    {b off k cp m tot:Nat} {f:Nat→UInt8} {s:ByteArray} (j:Nat) (hkm:off+min s.size k≤m)
    (h:∀a' w',St c n (putE E d [] (vi ((min s.size k:Nat):Int))) (H.set j (b,.row e2 m tot (bytes (fun x=>if off≤x∧x<off+min s.size k then sb s (x-off)else f x) 0))) A a' w'→K a' w')
    (hok:okO E [] x=true:=by as_aux_lemma=>kernel_rfl) (hok2:okO E [] y=true:=by as_aux_lemma=>kernel_rfl) (hx:rho E x=.slice (some ⟨b,off,none⟩) k cp:=by as_aux_lemma=>kernel_rfl) (hy:rho E y=.string s:=by as_aux_lemma=>kernel_rfl) (hj:H[j]? =some (b,.row e2 m tot (bytes f 0)):=by as_aux_lemma=>kernel_rfl):Runs1 P o a w K:=by
  obtain⟨cur,hc,hsz,hmt,hf⟩:=hS.mem.heap _ (List.mem_of_getElem? hj);have hr:=run_copy_str (P:=P) w t t2 o.type e b off k cp s cur e2 ht (by rw [hi];simp [h1]) hc (by omega);refine⟨_,_,copy_run ho (by rw [eval1 hS hok,eval1 hS hok2,hx,hy];exact hr),?_⟩
  · rw [hd]
    have hlen:(Lib.byteCells s.data.toList).length=s.size:=by rw [Lib.byteCells_length];simp
    have hh:=row_seg (n:=min s.size k) (o:=off) (g:=fun q=>v8 ((sb s q).toNat:Int)) hc hsz hmt hf hkm ((Lib.byteCells s.data.toList).take (min s.size k)) (by rw [List.length_take,hlen];omega) (fun q hq=>by
      rw [List.getElem?_take_of_lt hq];have hq2:q<s.data.toList.length:=by simp;omega
      unfold Lib.byteCells sb
      rw [List.getElem?_map,List.getElem?_eq_getElem hq2,List.getD_eq_getElem?_getD,List.getElem?_eq_getElem hq2];rfl)
    have hh2:=HE.row_eq hh (g:=bytes (fun x=>if off≤x∧x<off+min s.size k then sb s (x-off)else f x) 0) (fun q hq=>by
      unfold bytes segV;simp only [Nat.sub_zero];split<;>rfl)
    exact h _ _ ((hS.to (hS.mem.stepM j hj rfl rfl hh2 (Fr.setRow _))).put hdn)
def Cells8 (w:World)(b off k:Nat)(g:Nat→UInt8):Prop:=∀j,j<k→w.cell? ⟨b,off+j,none⟩=some (v8 ((g j).toNat:Int))
theorem Cells8.fn {lo hi off k:Nat}{b:Nat}{f:Nat→UInt8}{lo2:Nat}(h:HE.holds w b (.fn lo hi (bytes f lo2)))(h1:lo≤off)(h2:off+k≤hi):Cells8 w b off k (fun j=>f (off+j-lo2)):=by
  obtain⟨cc,T,fz,hc,hf⟩:=h;intro j hj
  unfold World.cell?
  simp only [hc]
  exact hf _ (by omega) (by omega)
theorem Cells8.row {e:TypeId}{m tot off k:Nat}{b:Nat}{f:Nat→UInt8}(h:HE.holds w b (.row e m tot (bytes f 0)))(h2:off+k≤m):Cells8 w b off k (fun j=>f (off+j)):=by
  obtain⟨cc,hc,hsz,hmt,hf⟩:=h;intro j hj
  unfold World.cell?
  simp only [hc]
  exact hf _ (by omega)
theorem run_bytesToStr {b off k cp:Nat}{g:Nat→UInt8}(h:Cells8 w b off k g):(Conv.bytesToString (.slice (some ⟨b,off,none⟩) k cp)).run P w=.ok (.string (bs g k)) w:=by
  have hl:=run_loadCells_list (P:=P) w ⟨b,off,none⟩ ((List.range k).map fun j=>v8 ((g j).toNat:Int)) (fun j v hj=>by
    have hjk:j<k:=by
      have:=(List.getElem?_eq_some_iff.1 hj).1
      simpa using this
    rw [List.getElem?_map,List.getElem?_range hjk]at hj
    simp only [Option.map_some,Option.some.injEq]at hj
    subst hj;rw [addr_add _ rfl]
    exact h j hjk)
  simp only [List.length_map,List.length_range]at hl
  have e:((List.range k).map fun j=>v8 ((g j).toNat:Int))=((List.range k).map fun j=>((g j).toNat:Int)).map (Value.int .u8):=by simp [List.map_map]
  rw [e]at hl;rw [run_bytesToString w ⟨b,off,none⟩ k cp _ hl]
  congr 1
  have:∀(l:List Nat) (s:ByteArray),(l.map fun j=>((g j).toNat:Int)).foldl (fun r n=>r.push (UInt8.ofNat n.toNat)) s=⟨s.data++(l.map g).toArray⟩:=by
    intro l
    induction l with
    |nil=>intro s;simp
    |cons x l ih=>
      intro s;rw [List.map_cons,List.foldl_cons,ih]
      apply ByteArray.ext
      simp [ByteArray.push]
  rw [this]
  unfold bs
  simp
theorem St.toStr (hS:St c n E H A a w)(x:Operand)(t t2:TypeId)(ho:o.op=.convert t t2 x){d:Nat}(hd:o.dst=some d)(hdn:d<n){e:TypeId}(ht:P.underlying t=some (.slice e))(he:P.underlying e=some (.int .u8))(ht2:P.underlying t2=some .string){b off k cp:Nat}(g:Nat→UInt8)(hg:Cells8 w b off k g)
    (h:∀a',St c n (putE E d [] (.string (bs g k))) H A a' w→K a' w) (hok:okO E [] x=true:=by as_aux_lemma=>kernel_rfl) (hx:rho E x=.slice (some ⟨b,off,none⟩) k cp:=by as_aux_lemma=>kernel_rfl):Runs1 P o a w K:=by
  refine⟨.string (bs g k),w,?_,?_⟩
  · simp only [execOp,ho,eval1 hS hok,hx]
    rw [runBind (w':=w) (x:=.string (bs g k))]
    · rfl
    · rw [run_convert_bytes_string w t t2 e _ _ _ ht he ht2];exact run_bytesToStr hg
  · rw [hd];exact h _ (hS.put hdn)
end
theorem pagesV_clear (com:Nat→Bool)(pb:Nat→Nat)(f k o:Nat):pagesV (setR com f k false) pb 0 o=segV (pagesV com pb 0) f k (fun _=>pnil) o:=by
  unfold pagesV segV setR
  simp only [Nat.sub_zero]
  split
  · rfl
  · rfl
theorem sadd_ne {cap l off size:Nat}(h:cap≠l):sadd cap l off size=off+l*size:=if_neg h
theorem pt_if {b:Bool}{x:Nat}(h:b=true):(Value.pointer (if b=true then some ⟨x,0,none⟩else none))=pt x 0:=by rw [h];rfl
end Go.Proofs.YtojjkjedcafpeaaGreatDoor.K
