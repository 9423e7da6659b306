import Derived.Tactics
import Derived.Laws.World
import Derived.KernelRfl
import Derived.Deep.Quiet
import Derived.Laws.Slices
import Derived.Laws.MakeOwn
import Derived.StillTail
import Derived.Deep.LoopGhost
import Derived.Laws.Append
import Derived.Laws.AppendOwn
namespace Go.Proofs.YtojjkjedcafpeaaGreatDoor.K
inductive HE where
  |cells (cs:List Value) (T:TypeId)
  |fn (lo hi:Nat) (f:Nat→Value)
  |row (e:TypeId) (n tot:Nat) (f:Nat→Value)
def HE.own:HE→Bool
  | .cells _ _=>true
  | .fn _ _ _=>false
  | .row _ _ _ _=>true
def HE.holds (w:World)(b:Nat):HE→Prop
  | .cells cs T=>w.heap[b]? =some (.cells cs.toArray T (0,0))
  | .fn lo hi f=>∃c T fz,w.heap[b]? =some (.cells c T fz)∧∀o,lo≤o→o<hi→c[o]? =some (f o)
  | .row e n tot f=>∃c,w.heap[b]? =some (.cells c e (0,0))∧c.size=tot∧n≤tot∧∀o,o<n→c[o]? =some (f o)
abbrev Heap:=List (Nat×HE)
structure LS where
  heap:Heap
  k:Nat
  ob:List Prop
def oneCell:Value→Bool
  | .agg _=>false
  | .tuple _=>false
  |_=>true
def absRun {α:Type}(P:Program)(h:Nat)(ν:Nat→Nat)(ro:Bool):Sem α→LS→Option (α×LS)
  | .pure a,s=>some (a,s)
  | .load _ a k,s=>match s.heap[h]? with
    |some (b,.cells cs _)=>match a.spot,cs[a.off]? with
      |none,some v=>absRun P h ν ro (k v) { s with ob:=(a.block=b)::s.ob }
      |_,_=>none
    |some (b,.fn lo hi f)=>match a.spot with
      |none=>absRun P h ν ro (k (f a.off)) { s with ob:=(a.block=b)::(lo≤a.off∧a.off<hi)::s.ob }
      |_=>none
    |some (b,.row _ n _ f)=>match a.spot with
      |none=>absRun P h ν ro (k (f a.off)) { s with ob:=(a.block=b)::(a.off<n)::s.ob }
      |_=>none
    |none=>none
  | .store _ a v k,s=>match ro,oneCell v with
    |false,true=>match s.heap[h]? with
      |some (b,.cells cs T)=>match a.spot,a.off.blt cs.length with
        |none,true=>absRun P h ν ro k { s with heap:=s.heap.set h (b,.cells (cs.set a.off v) T),ob:=(a.block=b)::s.ob }
        |_,_=>none
      |some (b,.row e n tot f)=>match a.spot with
        |none=>absRun P h ν ro k { s with heap:=s.heap.set h (b,.row e n tot (fun x=>if x=a.off then v else f x)),ob:=(a.block=b)::(a.off<n)::s.ob }
        |_=>none
      |_=>none
    |_,_=>none
  | .new o k,s=>match ro,o with
    |false,.cells c T (0,0)=>absRun P h ν ro (k (ν s.k)) { s with heap:=s.heap++[(ν s.k,.cells c.toList T)],k:=s.k+1 }
    |_,_=>none
  | .shape r k,s=>match s.heap[h]? with
    |some (b,.cells cs T)=>absRun P h ν ro (k (some (T,cs.length))) { s with ob:=(r=b)::s.ob }
    |_=>none
  | .freeze _ _ _,_=>none
  | .frozen a k,s=>match s.heap[h]? with
    |some (b,.cells _ _)=>absRun P h ν ro (k false) { s with ob:=(a.block=b)::s.ob }
    |_=>none
  | .getObj _ _,_=>none
  | .setObj _ _ _,_=>none
  | .choose _ _,_=>none
  | .sys _ _,_=>none
  | .program k,s=>absRun P h ν ro (k P) s
  | .mark _ k,s=>absRun P h ν ro k s
  | .halt _,_=>none
def AllP:List Prop→Prop
  |[]=>True
  |p::l=>p∧AllP l
def apartP (x y:Nat×HE):Prop:=x.2.own=true∨y.2.own=true→x.1≠y.1
structure Fine (ν:Nat→Nat)(s:LS)(w:World):Prop where
  holds:∀e∈s.heap,e.2.holds w e.1
  apart:s.heap.Pairwise apartP
  name:∀j,ν (s.k+j)=w.heap.size+j
structure Own (H:Heap)(w w':World):Prop where
  os:w'.os=w.os
  tape:w'.tape=w.tape
  output:w'.output=w.output
  drawn:w'.drawn=w.drawn
  size:w.heap.size≤w'.heap.size
  block:∀k,k<w.heap.size→(∀e∈H,e.2.own=true→e.1≠k)→w'.heap[k]? =w.heap[k]?
theorem Own.refl (H:Heap)(w:World):Own H w w:=⟨rfl,rfl,rfl,rfl,Nat.le_refl _,fun _ _ _=>rfl⟩
theorem Own.trans {H H':Heap}{a b c:World}(h:Own H a b)(k:Own H' b c)(hh:∀e∈H',e.2.own=true→(∃e'∈H,e'.2.own=true∧e'.1=e.1)∨a.heap.size≤e.1):Own H a c:=
  ⟨k.os.trans h.os,k.tape.trans h.tape,k.output.trans h.output,k.drawn.trans h.drawn,Nat.le_trans h.size k.size,fun i hi hn=>by
    rw [k.block i (Nat.lt_of_lt_of_le hi h.size) ?_,h.block i hi hn];intro e he ho hei
    rcases hh e he ho with⟨e',he',ho',h1⟩|h1
    · exact hn e' he' ho' (h1.trans hei)
    · omega⟩
theorem HE.holds.lt {w:World}{b:Nat}{x:HE}(h:x.holds w b):b<w.heap.size:=by
  cases x with
  |cells cs T=>
    have h:w.heap[b]? =some _:=h;exact(Array.getElem?_eq_some_iff.1 h).1
  |fn lo hi f=>
    obtain⟨c,T,fz,h,_⟩:=h;exact(Array.getElem?_eq_some_iff.1 h).1
  |row e n tot f=>
    obtain⟨c,h,_⟩:=h;exact(Array.getElem?_eq_some_iff.1 h).1
theorem HE.holds.congr {w w':World}{b:Nat}{x:HE}(h:x.holds w b)(e:w'.heap[b]? =w.heap[b]?):x.holds w' b:=by
  cases x with
  |cells cs T=>exact e.trans h
  |fn lo hi f=>
    obtain⟨c,T,fz,h,r⟩:=h;exact⟨c,T,fz,e.trans h,r⟩
  |row e' n tot f=>
    obtain⟨c,h,r⟩:=h;exact⟨c,e.trans h,r⟩
theorem cell_of_block {w:World}{a:Addr}{c:Array Value}{T:TypeId}{fz:Nat×Nat}(h:w.heap[a.block]? =some (.cells c T fz))(hs:a.spot=none):w.cell? a=c[a.off]?:=by
  simp [World.cell?,h,hs]
theorem heap_setCell_eq {w:World}{a:Addr}{v:Value}{c:Array Value}{T:TypeId}{fz:Nat×Nat}(h:w.heap[a.block]? =some (.cells c T fz))(hs:a.spot=none):
    (w.setCell a v).heap[a.block]? =some (.cells (c.setIfInBounds a.off v) T fz):=by
  simp [World.setCell,Array.getElem?_modify,h,hs]
theorem heap_setCell_ne {w:World}{a:Addr}{v:Value}{k:Nat}(h:k≠a.block):(w.setCell a v).heap[k]? =w.heap[k]?:=by
  simp only [World.setCell,Array.getElem?_modify]
  rw [if_neg (by omega)]
theorem setCell_size (w:World)(a:Addr)(v:Value):(w.setCell a v).heap.size=w.heap.size:=by
  simp [World.setCell]
theorem mem_set_cases {α:Type}{l:List α}{n:Nat}{a x:α}(h:x∈l.set n a):x=a∨∃m,m≠n∧l[m]? =some x:=by
  obtain⟨m,hm⟩:=List.mem_iff_getElem?.1 h
  by_cases e:n=m
  · subst e
    rw [List.getElem?_set]at hm
    simp at hm
    exact .inl hm.2.symm
  · rw [List.getElem?_set_ne e]at hm
    exact .inr ⟨m,fun h=>e h.symm,hm⟩
theorem pairwise_get {l:Heap}(h:l.Pairwise apartP){i j:Nat}{x y:Nat×HE}(hij:i≠j)(hx:l[i]? =some x)(hy:l[j]? =some y):apartP x y:=by
  obtain⟨hi,rfl⟩:=List.getElem?_eq_some_iff.1 hx;obtain⟨hj,rfl⟩:=List.getElem?_eq_some_iff.1 hy;rw [List.pairwise_iff_getElem]at h
  rcases Nat.lt_or_ge i j with hlt|hge
  · exact h i j hi hj hlt
  · have:=h j i hj hi (by omega)
    intro ho e;exact this ho.symm e.symm
theorem pairwise_of_get {l:Heap}(h:∀(i j:Nat) (x y:Nat×HE),i<j→l[i]? =some x→l[j]? =some y→apartP x y):l.Pairwise apartP:=by
  rw [List.pairwise_iff_getElem];intro i j hi hj hij;exact h i j _ _ hij (List.getElem?_eq_getElem hi) (List.getElem?_eq_getElem hj)
theorem fine_store {ν:Nat→Nat}{s:LS}{w:World}{h:Nat}{b:Nat}{x y:HE}{a:Addr}{v:Value}{ob:List Prop}(F:Fine ν s w)(hx:s.heap[h]? =some (b,x))(hb:a.block=b)(hox:x.own=true)(hoy:y.own=true)
    (hy:y.holds (w.setCell a v) b):Fine ν { s with heap:=s.heap.set h (b,y),ob:=ob } (w.setCell a v):=by
  subst hb;refine⟨?_,?_,?_⟩
  · intro e he
    rcases mem_set_cases he with rfl|⟨m,hm,hg⟩
    · exact hy
    · have:=pairwise_get F.apart (fun h=>hm h.symm) hx hg (.inl hox)
      exact(F.holds e (List.mem_of_getElem? hg)).congr (heap_setCell_ne fun h=>this h.symm)
  · refine pairwise_of_get fun i j p q hij hp hq=>?_
    have key:∀(i:Nat) (p:Nat×HE),(s.heap.set h (a.block,y))[i]? =some p→∃p',s.heap[i]? =some p'∧p'.1=p.1∧p'.2.own=p.2.own:=by
      intro i p hp;rw [List.getElem?_set]at hp
      split at hp
      · rename_i e
        split at hp
        · obtain rfl:=Option.some.inj hp
          exact⟨(a.block,x),by rw [←e];exact hx,rfl,hox.trans hoy.symm⟩
        · simp at hp
      · exact⟨p,hp,rfl,rfl⟩
    obtain⟨p',h1,h2,h3⟩:=key i p hp;obtain⟨q',k1,k2,k3⟩:=key j q hq;have:=pairwise_get F.apart (by omega) h1 k1;intro ho;rw [←h2,←k2];exact this (by rw [h3,k3];exact ho)
  · intro j
    show ν (s.k+j)=_
    rw [setCell_size];exact F.name j
theorem own_store {H:Heap}{w:World}{h b:Nat}{x:HE}{a:Addr}{v:Value}(hx:H[h]? =some (b,x))(hb:a.block=b)(hox:x.own=true):Own H w (w.setCell a v):=by
  subst hb;refine⟨rfl,rfl,rfl,rfl,by rw [setCell_size];exact Nat.le_refl _,fun k _ hk=>heap_setCell_ne fun e=>?_⟩;exact hk _ (List.mem_of_getElem? hx) hox e.symm
theorem heap_alloc_lt (w:World)(o:Obj){k:Nat}(h:k<w.heap.size):(w.alloc o).heap[k]? =w.heap[k]?:=by
  show(w.heap.push o)[k]? =_
  rw [Array.getElem?_push,if_neg (by omega)]
theorem heap_alloc_self (w:World)(o:Obj):(w.alloc o).heap[w.heap.size]? =some o:=by
  show(w.heap.push o)[w.heap.size]? =_
  simp
theorem alloc_size (w:World)(o:Obj):(w.alloc o).heap.size=w.heap.size+1:=by
  show(w.heap.push o).size=_
  simp
theorem own_alloc (H:Heap)(w:World)(o:Obj):Own H w (w.alloc o):=
  ⟨rfl,rfl,rfl,rfl,by rw [alloc_size];omega,fun _ hk _=>heap_alloc_lt w o hk⟩
theorem fine_alloc {ν:Nat→Nat}{s:LS}{w:World}{x:HE}{o:Obj}{ob:List Prop}(F:Fine ν s w)(hx:x.holds (w.alloc o) w.heap.size):
    Fine ν { s with heap:=s.heap++[(ν s.k,x)],k:=s.k+1,ob:=ob } (w.alloc o):=by
  have hk:ν s.k=w.heap.size:=F.name 0;refine⟨?_,?_,?_⟩
  · intro e he
    rcases List.mem_append.1 he with he|he
    · exact(F.holds e he).congr (heap_alloc_lt w o (F.holds e he).lt)
    · obtain rfl:=List.mem_singleton.1 he
      show x.holds _ (ν s.k)
      rw [hk];exact hx
  · rw [List.pairwise_append]
    refine⟨F.apart,List.pairwise_singleton _ _,fun p hp q hq=>?_⟩;obtain rfl:=List.mem_singleton.1 hq;intro _ e;have:=(F.holds p hp).lt;have e:p.1=ν s.k:=e;omega
  · intro j
    show ν (s.k+1+j)=_
    rw [alloc_size,Nat.add_assoc,F.name (1+j)];omega
structure Grew (w:World)(s s':LS):Prop where
  old:∀(i:Nat) (e:Nat×HE),s.heap[i]? =some e→∃e',s'.heap[i]? =some e'∧e'.1=e.1∧e'.2.own=e.2.own
  new:∀e∈s'.heap,(∃e'∈s.heap,e'.1=e.1∧e'.2.own=e.2.own)∨(w.heap.size≤e.1∧e.2.own=true)
  obs:∃l,s'.ob=l++s.ob
theorem Grew.refl (w:World)(s:LS):Grew w s s:=⟨fun _ e h=>⟨e,h,rfl,rfl⟩,fun e h=>.inl ⟨e,h,rfl,rfl⟩,[],rfl⟩
theorem Grew.trans {w w':World}{a b c:LS}(h:Grew w a b)(k:Grew w' b c)(hs:w.heap.size≤w'.heap.size):Grew w a c:=by
  refine⟨fun i e he=>?_,fun e he=>?_,?_⟩
  · obtain⟨e1,h1,h2,h3⟩:=h.old i e he
    obtain⟨e2,k1,k2,k3⟩:=k.old i e1 h1;exact⟨e2,k1,k2.trans h2,k3.trans h3⟩
  · rcases k.new e he with⟨e',he',h2,h3⟩|⟨h2,h3⟩
    · rcases h.new e' he' with⟨e'',he'',g2,g3⟩|⟨g2,g3⟩
      · exact .inl ⟨e'',he'',g2.trans h2,g3.trans h3⟩
      · exact .inr ⟨by omega,h3▸g3⟩
    · exact .inr ⟨by omega,h3⟩
  · obtain⟨l1,e1⟩:=h.obs
    obtain⟨l2,e2⟩:=k.obs;exact⟨l2++l1,by rw [e2,e1,List.append_assoc]⟩
theorem Grew.own {w:World}{a b:LS}(h:Grew w a b):∀e∈b.heap,e.2.own=true→(∃e'∈a.heap,e'.2.own=true∧e'.1=e.1)∨w.heap.size≤e.1:=by
  intro e he ho
  rcases h.new e he with⟨e',he',h2,h3⟩|⟨h2,_⟩
  · exact .inl ⟨e',he',h3.trans ho,h2⟩
  · exact .inr h2
theorem grew_store {w:World}{s:LS}{h b:Nat}{x y:HE}{ob:List Prop}(hx:s.heap[h]? =some (b,x))(ho:x.own=y.own):Grew w s { s with heap:=s.heap.set h (b,y),ob:=ob++s.ob } :=by
  refine⟨fun i e he=>?_,fun e he=>?_,⟨ob,rfl⟩⟩
  · by_cases hi:h=i
    · subst hi
      rw [hx]at he;obtain rfl:=Option.some.inj he;refine⟨(b,y),?_,rfl,ho.symm⟩
      show(s.heap.set h (b,y))[h]? =_
      rw [List.getElem?_set]
      simp [(List.getElem?_eq_some_iff.1 hx).1]
    · exact⟨e,by show(s.heap.set h (b,y))[i]? =_;rw [List.getElem?_set_ne hi];exact he,rfl,rfl⟩
  · rcases mem_set_cases he with rfl|⟨m,_,hg⟩
    · exact .inl ⟨_,List.mem_of_getElem? hx,rfl,ho⟩
    · exact .inl ⟨e,List.mem_of_getElem? hg,rfl,rfl⟩
theorem grew_alloc {ν:Nat→Nat}{w:World}{s:LS}{x:HE}(hk:ν s.k=w.heap.size)(ho:x.own=true):Grew w s { s with heap:=s.heap++[(ν s.k,x)],k:=s.k+1 } :=by
  refine⟨fun i e he=>⟨e,?_,rfl,rfl⟩,fun e he=>?_,⟨[],rfl⟩⟩
  · show(s.heap++[_])[i]? =_
    rw [List.getElem?_append_left (List.getElem?_eq_some_iff.1 he).1];exact he
  · rcases List.mem_append.1 he with he|he
    · exact .inl ⟨e,he,rfl,rfl⟩
    · obtain rfl:=List.mem_singleton.1 he
      exact .inr ⟨Nat.le_of_eq hk.symm,ho⟩
theorem grew_ob {w:World}{s:LS}(l:List Prop):Grew w s { s with ob:=l++s.ob } :=⟨fun _ e h=>⟨e,h,rfl,rfl⟩,fun e h=>.inl ⟨e,h,rfl,rfl⟩,l,rfl⟩
theorem allP_append {l m:List Prop}(h:AllP (l++m)):AllP l∧AllP m:=by
  induction l with
  |nil=>exact⟨trivial,h⟩
  |cons p l ih=>obtain⟨h1,h2⟩:=h;exact⟨⟨h1,(ih h2).1⟩,(ih h2).2⟩
theorem Fine.ob {ν:Nat→Nat}{s:LS}{w:World}(F:Fine ν s w)(l:List Prop):Fine ν { s with ob:=l } w:=⟨F.holds,F.apart,F.name⟩
theorem ob1 {a l s:List Prop}{p:Prop}(h:a=l++p::s):∃l',a=l'++s:=⟨l++[p],by rw [h,List.append_assoc];rfl⟩
theorem ob2 {a l s:List Prop}{p q:Prop}(h:a=l++p::q::s):∃l',a=l'++s:=⟨l++[p,q],by rw [h,List.append_assoc];rfl⟩
theorem absRun_obs {α:Type}(P:Program)(h:Nat)(ν:Nat→Nat)(ro:Bool)(m:Sem α):∀(s:LS) (x:α) (s':LS),absRun P h ν ro m s=some (x,s')→∃l,s'.ob=l++s.ob:=by
  induction m with
  |pure a=>intro s x s' he;simp only [absRun,Option.some.injEq,Prod.mk.injEq]at he;exact⟨[],by rw [←he.2];rfl⟩
  |load md a k ih=>
    intro s x s' he
    simp only [absRun]at he
    split at he
    · split at he
      · obtain⟨l,hl⟩:=ih _ _ x s' he;exact ob1 hl
      · simp at he
    · split at he
      · obtain⟨l,hl⟩:=ih _ _ x s' he;exact ob2 hl
      · simp at he
    · split at he
      · obtain⟨l,hl⟩:=ih _ _ x s' he;exact ob2 hl
      · simp at he
    · simp at he
  |store md a v k ih=>
    intro s x s' he
    simp only [absRun]at he
    split at he
    · split at he
      · split at he
        · obtain⟨l,hl⟩:=ih _ x s' he;exact ob1 hl
        · simp at he
      · split at he
        · obtain⟨l,hl⟩:=ih _ x s' he;exact ob2 hl
        · simp at he
      · simp at he
    · simp at he
  |new o k ih=>
    intro s x s' he
    simp only [absRun]at he
    split at he
    · obtain⟨l,hl⟩:=ih _ { heap:=s.heap++[(ν s.k,_)],k:=s.k+1,ob:=s.ob } x s' he;exact⟨l,hl⟩
    · simp at he
  |shape r k ih=>
    intro s x s' he
    simp only [absRun]at he
    split at he
    · obtain⟨l,hl⟩:=ih _ _ x s' he;exact ob1 hl
    · simp at he
  |freeze a n k ih=>intro s x s' he;simp [absRun]at he
  |frozen a k ih=>
    intro s x s' he
    simp only [absRun]at he
    split at he
    · obtain⟨l,hl⟩:=ih _ _ x s' he;exact ob1 hl
    · simp at he
  |getObj r k ih=>intro s x s' he;simp [absRun]at he
  |setObj r o k ih=>intro s x s' he;simp [absRun]at he
  |choose q k ih=>intro s x s' he;simp [absRun]at he
  |sys c k ih=>intro s x s' he;simp [absRun]at he
  |program k ih=>intro s x s' he;exact ih P s x s' he
  |mark mm k ih=>intro s x s' he;exact ih s x s' he
  |halt hh=>intro s x s' he;simp [absRun]at he
theorem absRun_sound {α:Type}(P:Program)(h:Nat)(ν:Nat→Nat)(ro:Bool)(m:Sem α):∀(s:LS) (w:World) (x:α) (s':LS),absRun P h ν ro m s=some (x,s')→Fine ν s w→AllP s'.ob→
    ∃w',m.run P w=.ok x w'∧Fine ν s' w'∧Own s.heap w w'∧Grew w s s'∧(ro=true→w'=w∧s'.heap=s.heap∧s'.k=s.k):=by
  induction m with
  |pure a=>
    intro s w x s' he F _
    simp only [absRun,Option.some.injEq,Prod.mk.injEq]at he
    obtain⟨rfl,rfl⟩:=he;exact⟨w,rfl,F,.refl _ _,.refl _ _,fun _=>⟨rfl,rfl,rfl⟩⟩
  |load md a k ih=>
    intro s w x s' he F hob
    simp only [absRun]at he
    split at he
    · rename_i b cs T hx
      split at he
      · rename_i v hsp hv
        obtain⟨w',hr,F',hO,hG,hR⟩:=ih v _ w x s' he (F.ob _) hob;obtain⟨l,hl⟩:=hG.obs;have hb:a.block=b:=by rw [hl]at hob;exact(allP_append hob).2.1
        have hh:=F.holds _ (List.mem_of_getElem? hx)
        have hc:w.cell? a=some v:=by
          rw [cell_of_block (hb▸hh) hsp];simpa using hv
        refine⟨w',?_,F',hO,(grew_ob (w:=w) [_]).trans hG (Nat.le_refl _),fun h=>?_⟩
        · simp only [Sem.run,hc];exact hr
        · obtain⟨h1,h2,h3⟩:=hR h;exact⟨h1,h2,h3⟩
      · simp at he
    · rename_i b lo hi f hx
      split at he
      · rename_i hsp
        obtain⟨w',hr,F',hO,hG,hR⟩:=ih (f a.off) _ w x s' he (F.ob _) hob;obtain⟨l,hl⟩:=hG.obs;rw [hl]at hob;obtain⟨hb,hin,_⟩:=(allP_append hob).2;obtain⟨c,T,fz,hh,hf⟩:=F.holds _ (List.mem_of_getElem? hx)
        have hc:w.cell? a=some (f a.off):=by
          rw [cell_of_block (hb▸hh) hsp];exact hf _ hin.1 hin.2
        refine⟨w',?_,F',hO,(grew_ob (w:=w) [_,_]).trans hG (Nat.le_refl _),fun h=>?_⟩
        · simp only [Sem.run,hc];exact hr
        · obtain⟨h1,h2,h3⟩:=hR h;exact⟨h1,h2,h3⟩
      · simp at he
    · rename_i b e n tot f hx
      split at he
      · rename_i hsp
        obtain⟨w',hr,F',hO,hG,hR⟩:=ih (f a.off) _ w x s' he (F.ob _) hob;obtain⟨l,hl⟩:=hG.obs;rw [hl]at hob;obtain⟨hb,hin,_⟩:=(allP_append hob).2;obtain⟨c,hh,_,_,hf⟩:=F.holds _ (List.mem_of_getElem? hx)
        have hc:w.cell? a=some (f a.off):=by
          rw [cell_of_block (hb▸hh) hsp];exact hf _ hin
        refine⟨w',?_,F',hO,(grew_ob (w:=w) [_,_]).trans hG (Nat.le_refl _),fun h=>?_⟩
        · simp only [Sem.run,hc];exact hr
        · obtain⟨h1,h2,h3⟩:=hR h;exact⟨h1,h2,h3⟩
      · simp at he
    · simp at he
  |store md a v k ih=>
    intro s w x s' he F hob
    simp only [absRun]at he
    split at he
    · rename_i hone
      have hrun:∀u,w.cell? a=some u→w.frozen? a=false→(Sem.store md a v k).run P w=k.run P (w.setCell a v):=by
        intro u hc hf
        cases v<;>simp_all [Sem.run,oneCell]
      split at he
      · rename_i b cs T hx
        split at he
        · rename_i hsp hlt
          have hlt:a.off<cs.length:=by simpa using hlt
          have hh:=F.holds _ (List.mem_of_getElem? hx)
          have goal:∀hb:a.block=b,∃w',(Sem.store md a v k).run P w=.ok x w'∧Fine ν s' w'∧Own s.heap w w'∧Grew w s s'∧(false=true→w'=w∧s'.heap=s.heap∧s'.k=s.k):=by
            intro hb;have hh':w.heap[a.block]? =some (.cells cs.toArray T (0,0)):=hb▸hh
            have F1:Fine ν { s with heap:=s.heap.set h (b,.cells (cs.set a.off v) T),ob:=(a.block=b)::s.ob } (w.setCell a v):=
              fine_store F hx hb rfl rfl (by
                subst hb
                show(w.setCell a v).heap[a.block]? =_
                rw [heap_setCell_eq hh' hsp];simp)
            obtain⟨w',hr,F',hO,hG,_⟩:=ih _ _ x s' he F1 hob;refine⟨w',?_,F',?_,?_,fun h=>by cases h⟩
            · rw [hrun (cs[a.off]) (by rw [cell_of_block hh' hsp];simp [hlt]) (by simp [World.frozen?,hh'])]
              exact hr
            · refine(own_store hx hb rfl).trans hO fun e he ho=>?_
              rcases mem_set_cases he with rfl|⟨m,_,hg⟩
              · exact .inl ⟨_,List.mem_of_getElem? hx,rfl,rfl⟩
              · exact .inl ⟨e,List.mem_of_getElem? hg,ho,rfl⟩
            · exact(grew_store (w:=w) (y:=.cells (cs.set a.off v) T) (ob:=[_]) hx rfl).trans hG (Nat.le_of_eq (setCell_size w a v).symm)
          have hb:a.block=b:=by
            by_cases hb:a.block=b
            · exact hb
            · exfalso
              have:∃l,s'.ob=l++((a.block=b)::s.ob):=by
                exact absRun_obs P h ν false k _ x s' he
              obtain⟨l,hl⟩:=this;rw [hl]at hob;exact hb (allP_append hob).2.1
          exact goal hb
        · simp at he
      · rename_i b e n tot f hx
        split at he
        · rename_i hsp
          obtain⟨l,hl⟩:=absRun_obs P h ν false k _ x s' he;have hob':=hob;rw [hl]at hob';obtain⟨hb,hin,_⟩:=(allP_append hob').2;obtain⟨c,hh,ht,hnt,hf⟩:=F.holds _ (List.mem_of_getElem? hx);have hh':w.heap[a.block]? =some (.cells c e (0,0)):=hb▸hh
          have F1:Fine ν { s with heap:=s.heap.set h (b,.row e n tot (fun x=>if x=a.off then v else f x)),ob:=(a.block=b)::(a.off<n)::s.ob } (w.setCell a v):=
            fine_store F hx hb rfl rfl (by
              subst hb;refine⟨_,heap_setCell_eq hh' hsp,by simpa using ht,hnt,fun o h2=>?_⟩;rw [Array.getElem?_setIfInBounds]
              by_cases e:a.off=o
              · subst e;simp;omega
              · have e':¬o=a.off:=fun h=>e h.symm
                rw [if_neg e];simp only [if_neg e'];exact hf o h2)
          obtain⟨w',hr,F',hO,hG,_⟩:=ih _ _ x s' he F1 hob;refine⟨w',?_,F',?_,?_,fun h=>by cases h⟩
          · rw [hrun (f a.off) (by rw [cell_of_block hh' hsp];exact hf _ hin) (by simp [World.frozen?,hh'])]
            exact hr
          · refine(own_store hx hb rfl).trans hO fun e he ho=>?_
            rcases mem_set_cases he with rfl|⟨m,_,hg⟩
            · exact .inl ⟨_,List.mem_of_getElem? hx,rfl,rfl⟩
            · exact .inl ⟨e,List.mem_of_getElem? hg,ho,rfl⟩
          · exact(grew_store (w:=w) (y:=.row e n tot (fun x=>if x=a.off then v else f x)) (ob:=[_,_]) hx rfl).trans hG (Nat.le_of_eq (setCell_size w a v).symm)
        · simp at he
      · simp at he
    · simp at he
  |new o k ih=>
    intro s w x s' he F hob
    simp only [absRun]at he
    split at he
    · rename_i c T
      have hk:ν s.k=w.heap.size:=F.name 0
      have F1:Fine ν { s with heap:=s.heap++[(ν s.k,.cells c.toList T)],k:=s.k+1,ob:=s.ob } (w.alloc (.cells c T (0,0))):=
        fine_alloc F (by show(w.alloc _).heap[w.heap.size]? =_;rw [heap_alloc_self])
      rw [hk]at he;obtain⟨w',hr,F',hO,hG,_⟩:=ih w.heap.size _ _ x s' he (by rw [hk]at F1;exact F1) hob;refine⟨w',hr,F',?_,?_,fun h=>by cases h⟩
      · refine(own_alloc _ w _).trans hO fun e he ho=>?_
        rcases List.mem_append.1 he with he|he
        · exact .inl ⟨e,he,ho,rfl⟩
        · obtain rfl:=List.mem_singleton.1 he
          exact .inr (Nat.le_refl _)
      · have:=grew_alloc (ν:=ν) (w:=w) (s:=s) (x:=.cells c.toList T) hk rfl
        rw [hk]at this;exact this.trans hG (Nat.le_of_lt (by rw [alloc_size];exact Nat.lt_succ_self _))
    · simp at he
  |shape r k ih=>
    intro s w x s' he F hob
    simp only [absRun]at he
    split at he
    · rename_i b cs T hx
      obtain⟨w',hr,F',hO,hG,hR⟩:=ih _ _ w x s' he (F.ob _) hob;obtain⟨l,hl⟩:=hG.obs;have hb:r=b:=by rw [hl]at hob;exact(allP_append hob).2.1
      have hh:w.heap[b]? =some (.cells cs.toArray T (0,0)):=F.holds _ (List.mem_of_getElem? hx);refine⟨w',?_,F',hO,(grew_ob (w:=w) [_]).trans hG (Nat.le_refl _),hR⟩;have:w.shape? r=some (T,cs.length):=by subst hb;simp [World.shape?,hh]
      simp only [Sem.run,this];exact hr
    · simp at he
  |freeze a n k ih=>intro s w x s' he;simp [absRun]at he
  |frozen a k ih=>
    intro s w x s' he F hob
    simp only [absRun]at he
    split at he
    · rename_i b cs T hx
      obtain⟨w',hr,F',hO,hG,hR⟩:=ih _ _ w x s' he (F.ob _) hob;obtain⟨l,hl⟩:=hG.obs;have hb:a.block=b:=by rw [hl]at hob;exact(allP_append hob).2.1
      have hh:w.heap[b]? =some (.cells cs.toArray T (0,0)):=F.holds _ (List.mem_of_getElem? hx);refine⟨w',?_,F',hO,(grew_ob (w:=w) [_]).trans hG (Nat.le_refl _),hR⟩;have:w.frozen? a=false:=by subst hb;simp [World.frozen?,hh]
      simp only [Sem.run,this];exact hr
    · simp at he
  |getObj r k ih=>intro s w x s' he;simp [absRun]at he
  |setObj r o k ih=>intro s w x s' he;simp [absRun]at he
  |choose q k ih=>intro s w x s' he;simp [absRun]at he
  |sys c k ih=>intro s w x s' he;simp [absRun]at he
  |program k ih=>
    intro s w x s' he F hob;exact ih P s w x s' he F hob
  |mark mm k ih=>
    intro s w x s' he F hob;exact ih s w x s' he F hob
  |halt hh=>intro s w x s' he;simp [absRun]at he
abbrev Conds:=List (Nat×Bool)
abbrev Env:=List (Nat×Conds×Value)
def look:Env→Nat→Option (Conds×Value)
  |[],_=>none
  |(t,cs,v)::l,x=>match Nat.beq t x with
    |true=>some (cs,v)
    |false=>look l x
def rho (E:Env):Operand→Value
  | .tmp t=>match look E t with
    |some (_,v)=>v
    |none=>undef
  | .const v=>v
  | .global g=>.pointer (some ⟨g,0,none⟩)
  | .func f=>.func (.func f) #[] #[]
def isIn (p:Nat×Bool):Conds→Bool
  |[]=>false
  |q::l=>(Nat.beq p.1 q.1&&(p.2==q.2))||isIn p l
def sub:Conds→Conds→Bool
  |[],_=>true
  |p::l,C=>isIn p C&&sub l C
def okO (E:Env)(C:Conds):Operand→Bool
  | .tmp t=>match look E t with
    |some (cs,_)=>sub cs C
    |none=>false
  |_=>true
def okAll (E:Env)(C:Conds):List Operand→Bool
  |[]=>true
  |x::l=>okO E C x&&okAll E C l
def Holds (a:Act)(C:Conds):Prop:=∀p∈C,a.tmps.getD p.1 undef=.bool p.2
def Agree (E:Env)(a:Act):Prop:=∀e∈E,(Holds a e.2.1∧a.tmps.getD e.1 undef=e.2.2)∨(¬Holds a e.2.1∧a.tmps.getD e.1 undef=undef)
theorem Agree.at {E:Env}{a:Act}(h:Agree E a){e:Nat×Conds×Value}(he:e∈E)(hc:Holds a e.2.1):a.tmps.getD e.1 undef=e.2.2:=by
  rcases h e he with⟨_,h⟩|⟨h,_⟩
  · exact h
  · exact absurd hc h
theorem look_mem {E:Env}{t:Nat}{cs:Conds}{v:Value}(h:look E t=some (cs,v)):(t,cs,v)∈E:=by
  induction E with
  |nil=>simp [look]at h
  |cons e l ih=>
    obtain⟨x,c,u⟩:=e
    simp only [look]at h
    split at h
    · rename_i hx
      simp only [Option.some.injEq,Prod.mk.injEq]at h
      obtain⟨rfl,rfl⟩:=h;rw [Nat.eq_of_beq_eq_true hx];exact List.mem_cons_self
    · exact List.mem_cons_of_mem _ (ih h)
theorem isIn_mem {p:Nat×Bool}{C:Conds}(h:isIn p C=true):p∈C:=by
  induction C with
  |nil=>simp [isIn]at h
  |cons q l ih=>
    simp only [isIn,Bool.or_eq_true,Bool.and_eq_true,beq_iff_eq]at h
    rcases h with⟨h1,h2⟩|h
    · have h1:=Nat.eq_of_beq_eq_true h1
      have:p=q:=Prod.ext h1 h2;exact this▸List.mem_cons_self
    · exact List.mem_cons_of_mem _ (ih h)
theorem sub_mem {cs C:Conds}(h:sub cs C=true):∀p∈cs,p∈C:=by
  induction cs with
  |nil=>intro p hp;cases hp
  |cons q l ih=>
    simp only [sub,Bool.and_eq_true]at h
    intro p hp
    rcases List.mem_cons.1 hp with rfl|hp
    · exact isIn_mem h.1
    · exact ih h.2 p hp
theorem Holds.sub {a:Act}{cs C:Conds}(h:Holds a C)(hs:sub cs C=true):Holds a cs:=fun p hp=>h p (sub_mem hs p hp)
theorem agree_eval {E:Env}{a:Act}{C:Conds}(hE:Agree E a)(hC:Holds a C){x:Operand}(h:okO E C x=true):a.eval x=rho E x:=by
  cases x with
  |tmp t=>
    simp only [okO]at h
    cases hl:look E t with
    |none=>simp [hl]at h
    |some q=>
      obtain⟨cs,v⟩:=q
      simp only [hl]at h
      simp only [rho,hl]
      exact hE.at (look_mem hl) (hC.sub h)
  |const v=>rfl
  |global g=>rfl
  |func f=>rfl
theorem okAll_mem {E:Env}{C:Conds}{l:List Operand}(h:okAll E C l=true):∀x∈l,okO E C x=true:=by
  induction l with
  |nil=>intro x hx;cases hx
  |cons y l ih=>
    simp only [okAll,Bool.and_eq_true]at h
    intro x hx
    rcases List.mem_cons.1 hx with rfl|hx
    · exact h.1
    · exact ih h.2 x hx
def named:Conds→Nat→Bool
  |[],_=>false
  |p::l,d=>Nat.beq p.1 d||named l d
def strike:Env→Nat→Env
  |[],_=>[]
  |e::l,d=>match Nat.beq e.1 d||named e.2.1 d with
    |true=>strike l d
    |false=>e::strike l d
def putE (E:Env)(d:Nat)(C:Conds)(v:Value):Env:=(d,C,v)::strike E d
theorem named_false {cs:Conds}{d:Nat}(h:named cs d=false):∀p∈cs,p.1≠d:=by
  induction cs with
  |nil=>intro p hp;cases hp
  |cons q l ih=>
    simp only [named,Bool.or_eq_false_iff]at h
    intro p hp
    rcases List.mem_cons.1 hp with rfl|hp
    · intro e
      have:=h.1;rw [e]at this
      simp at this
    · exact ih h.2 p hp
theorem strike_mem {E:Env}{d:Nat}{e:Nat×Conds×Value}(h:e∈strike E d):e∈E∧e.1≠d∧∀p∈e.2.1,p.1≠d:=by
  induction E with
  |nil=>cases h
  |cons x l ih=>
    simp only [strike]at h
    split at h
    · obtain⟨h1,h2⟩:=ih h
      exact⟨List.mem_cons_of_mem _ h1,h2⟩
    · rename_i hb
      simp only [Bool.or_eq_false_iff]at hb
      rcases List.mem_cons.1 h with rfl|h
      · refine⟨List.mem_cons_self,fun e=>?_,named_false hb.2⟩
        have:=hb.1;rw [e]at this
        simp at this
      · obtain⟨h1,h2⟩:=ih h
        exact⟨List.mem_cons_of_mem _ h1,h2⟩
theorem put_getD_ne {a:Act}{d t:Nat}{v:Value}(h:t≠d):(a.put (some d) v).tmps.getD t undef=a.tmps.getD t undef:=by
  simp only [Act.put,Array.getD_eq_getD_getElem?]
  rw [Array.getElem?_setIfInBounds,if_neg (fun e=>h e.symm)]
theorem put_getD_eq {a:Act}{d:Nat}{v:Value}(h:d<a.tmps.size):(a.put (some d) v).tmps.getD d undef=v:=by
  simp only [Act.put,Array.getD_eq_getD_getElem?]
  rw [Array.getElem?_setIfInBounds,if_pos rfl,if_pos h]
  rfl
theorem Holds.put {a:Act}{d:Nat}{v:Value}{cs:Conds}(hn:∀p∈cs,p.1≠d):Holds (a.put (some d) v) cs↔Holds a cs:=by
  constructor
  · intro h p hp;rw [←h p hp,put_getD_ne (hn p hp)]
  · intro h p hp;rw [put_getD_ne (hn p hp)];exact h p hp
theorem agree_strike {E:Env}{a:Act}(h:Agree E a)(d:Nat)(v:Value):Agree (strike E d) (a.put (some d) v):=by
  intro e he;obtain⟨h1,h2,h3⟩:=strike_mem he;rw [put_getD_ne h2,Holds.put h3];exact h e h1
theorem agree_put {E:Env}{a:Act}(h:Agree E a){d:Nat}(hd:d<a.tmps.size){C:Conds}{v v':Value}(hn:named C d=false)(hv:(Holds a C∧v'=v)∨(¬Holds a C∧v'=undef)):Agree (putE E d C v) (a.put (some d) v'):=by
  intro e he
  rcases List.mem_cons.1 he with rfl|he
  · rw [put_getD_eq hd,Holds.put (named_false hn)]
    exact hv
  · exact agree_strike h d v' e he
theorem put_size (a:Act)(d:Option Nat)(v:Value):(a.put d v).tmps.size=a.tmps.size:=by
  cases d with
  |none=>rfl
  |some d=>simp [Act.put]
theorem put_defers (a:Act)(d:Option Nat)(v:Value):(a.put d v).defers=a.defers:=by
  cases d<;>rfl
def opKnown:Op→Bool
  | .move _| .assign _| .alloc _| .box _ _| .build _ _| .buildSlice _ _ _| .load _ _| .store _ _ _| .nilCheck _| .binOp _ _ _ _ _| .unOp _ _ _| .convert _ _ _
  | .makeFunc _ _ _| .makeSlice _ _ _| .slice _ _ _ _ _| .fieldAddr _ _ _| .field _ _ _| .indexAddr _ _ _| .index _ _ _| .extract _ _| .call _=>true
  |_=>false
theorem map_parts {ρ ρ':Operand→Value}(ps:Array (Nat×Operand))(h:∀x∈(ps.toList.map (·.2)),ρ x=ρ' x):ps.map (fun(i,x)=>(i,ρ x))=ps.map (fun(i,x)=>(i,ρ' x)):=by
  apply Array.map_congr_left
  intro p hp;have:=h p.2 (List.mem_map_of_mem (Array.mem_toList_iff.2 hp));obtain⟨i,x⟩:=p
  show(i,ρ x)=(i,ρ' x)
  rw [this]
theorem execOp_congr {ρ ρ':Operand→Value}(o:Oper)(hk:opKnown o.op=true)(h:∀x∈o.op.operands.toList,ρ x=ρ' x):execOp ρ o=execOp ρ' o:=by
  obtain⟨dst,op,type,pos,after,guard⟩:=o
  cases op with
  |build t ps=>
    simp only [execOp]
    rw [map_parts ps (by simpa [Op.operands]using h)]
  |buildSlice t n ps=>
    simp only [execOp]
    rw [map_parts ps (by simpa [Op.operands]using h)]
  |slice t x lo hi mx=>
    simp only [execOp]
    have hx:ρ x=ρ' x:=h x (by simp [Op.operands])
    have hl:lo.map ρ=lo.map ρ':=by cases lo with
      |none=>rfl
      |some y=>simp [h y (by simp [Op.operands])]
    have hh:hi.map ρ=hi.map ρ':=by cases hi with
      |none=>rfl
      |some y=>simp [h y (by simp [Op.operands])]
    have hm:mx.map ρ=mx.map ρ':=by cases mx with
      |none=>rfl
      |some y=>simp [h y (by simp [Op.operands])]
    rw [hx,hl,hh,hm]
  |makeFunc fn f c=>
    simp only [execOp]
    have h1:f.map ρ=f.map ρ':=Array.map_congr_left fun x hx=>h x (by simp [Op.operands,hx])
    have h2:c.map ρ=c.map ρ':=Array.map_congr_left fun x hx=>h x (by simp [Op.operands,hx])
    rw [h1,h2]
  |call c=>
    simp only [execOp,resolve]
    have h1:c.args.map ρ=c.args.map ρ':=Array.map_congr_left fun x hx=>h x (by simp [Op.operands,Call.operands,hx])
    rw [h1]
    cases hc:c.callee with
    |value f=>have e:=h f (by simp [Op.operands,Call.operands,hc]);simp only [e]
    |invoke r m=>have e:=h r (by simp [Op.operands,Call.operands,hc]);simp only [e]
    |builtin b=>rfl
  |_=>
    first
      |(simp only [execOp];done)
      |(simp [opKnown]at hk;done)
      |(simp only [execOp];simp only [Op.operands,List.mem_cons,List.not_mem_nil,or_false,forall_eq_or_imp,forall_eq]at h;first|rw [h]|(obtain⟨h1,h2⟩:=h;rw [h1,h2]))
      |skip
set_option linter.unusedSimpArgs false
set_option linter.unusedVariables false
def bat (s:ByteArray)(i:Int):Int:=((s.data.toList.getD i.toNat 0).toNat:Int)
def sadd (cap l off size:Nat):Nat:=if cap=l then off else off+l*size
def optInt (ρ:Operand→Value)(d:Int):Option Operand→Option Int
  |none=>some d
  |some x=>match ρ x with
    | .int _ n=>some n
    |_=>none
def fit (k:IntKind)(x:Int):Prop:=k.wrap x=x
def natOp:BinOp→Nat→Nat→Option Nat
  | .and,x,y=>some (x&&&y)
  | .or,x,y=>some (x|||y)
  | .xor,x,y=>some (x^^^y)
  |_,_,_=>none
def bitRaw (op:BinOp)(k:IntKind)(a b:Int):Int:=match op with
  | .and=>k.wrap ((BitVec.ofInt k.bits a&&&BitVec.ofInt k.bits b).toNat:Int)
  | .or=>k.wrap ((BitVec.ofInt k.bits a|||BitVec.ofInt k.bits b).toNat:Int)
  |_=>k.wrap ((BitVec.ofInt k.bits a^^^BitVec.ofInt k.bits b).toNat:Int)
def clean2:BinOp→IntKind→Int→IntKind→Int→Option (Value×List Prop)
  | .shl,k,a,_,b=>some (.int k (a*2^b.toNat),[0≤b∧k.wrap (a*2^(min b.toNat k.bits))=a*2^b.toNat])
  | .shr,k,a,_,b=>some (.int k (a/2^b.toNat),[0≤b∧a.fdiv (2^(min b.toNat k.bits))=a/2^b.toNat])
  |op,k,a,k',b=>match decide (k=k')with
    |false=>none
    |true=>match op with
      | .add=>some (.int k (a+b),[fit k (a+b)])
      | .sub=>some (.int k (a-b),[fit k (a-b)])
      | .mul=>some (.int k (a*b),[fit k (a*b)])
      | .quo=>some (.int k (a/b),[b≠0∧k.wrap (a.tdiv b)=a/b])
      | .rem=>some (.int k (a%b),[b≠0∧a.tmod b=a%b])
      |op=>match a,b with
        | .ofNat x,.ofNat y=>match natOp op x y with
          |some z=>some (.int k (.ofNat z),[bitRaw op k (.ofNat x) (.ofNat y)=.ofNat z])
          |none=>none
        |_,_=>none
def special (P:Program)(m:Nat)(ρ:Operand→Value):Op→Option (Value×List Prop)
  | .indexAddr t x i=>match P.underlying t,ρ x,ρ i with
    |some (.slice e),.slice (some a) len _,.int _ n=>match a.spot,m with
      |none,1=>match Nat.beq a.off 0,Nat.beq (P.cellsOf e) 1,P.info? e with
        |true,true,some _=>some (.pointer (some ⟨a.block,n.toNat,none⟩),[0≤n∧n<(len:Int)])
        |_,_,_=>none
      |none,2=>match P.info? e with
        |some _=>some (.pointer (some ⟨a.block,a.off+n.toNat*P.cellsOf e,none⟩),[0≤n∧n<(len:Int)])
        |none=>none
      |_,_=>none
    |some (.array len e),.pointer (some a),.int _ n=>match a.spot,m with
      |none,3=>match P.info? e with
        |some _=>some (.pointer (some ⟨a.block,a.off+n.toNat*P.cellsOf e,none⟩),[0≤n∧n<(len:Int)])
        |none=>none
      |_,_=>none
    |_,_,_=>none
  | .index t x i=>match P.underlying t,ρ x,ρ i with
    |some .string,.string s,.int _ n=>match m with
      |1=>some (.int .u8 (bat s n),[0≤n∧n<(s.size:Int)])
      |_=>none
    |_,_,_=>none
  | .binOp op _ x y _=>match op,ρ x,ρ y,m with
    | .quo,.int k a,.int k' b,1=>match decide (k=k')with
      |true=>some (.int k (k.wrap (a.tdiv b)),[b≠0])
      |false=>none
    | .rem,.int k a,.int k' b,1=>match decide (k=k')with
      |true=>some (.int k (a.tmod b),[b≠0])
      |false=>none
    | .shl,.int k a,.int _ b,1=>some (.int k (k.wrap (a*2^(min b.toNat k.bits))),[0≤b])
    | .shr,.int k a,.int _ b,1=>some (.int k (a.fdiv (2^(min b.toNat k.bits))),[0≤b])
    | .add,.string a,.string b,1=>some (.string (a++b),[((a.size+b.size:Nat):Int)≤IntKind.i64.max])
    |op,.int k a,.int k' b,2=>clean2 op k a k' b
    |_,_,_,_=>none
  | .convert src dst x=>match P.underlying src,P.underlying dst,ρ x,m with
    |some _,some (.int k),.int _ n,2=>some (.int k n,[fit k n])
    |_,_,_,_=>none
  | .slice t x lo hi none=>match P.underlying t,ρ x with
    |some .string,.string s=>match m,optInt ρ 0 lo,optInt ρ (s.size:Int) hi with
      |1,some l,some h=>some (.string (s.extract l.toNat h.toNat),[0≤l∧l≤h∧h≤(s.size:Int)])
      |_,_,_=>none
    |some (.slice e),.slice o len cap=>match P.info? e,m,optInt ρ 0 lo,optInt ρ (len:Int) hi with
      |some _,1,some l,some h=>match o with
        |some a=>match a.spot with
          |none=>some (.slice (some ⟨a.block,sadd cap l.toNat a.off (P.cellsOf e),none⟩) (h.toNat-l.toNat) (cap-l.toNat),[0≤l∧l≤h∧h≤(cap:Int)∧len≤cap])
          |some _=>none
        |none=>none
      |some _,2,some l,some h=>match lo with
        |none=>some (.slice o h.toNat cap,[0≤h∧h≤(cap:Int)∧len≤cap∧l=0])
        |some _=>none
      |_,_,_,_=>none
    |_,_=>none
  |_=>none
theorem run_underlying {P:Program}{t:TypeId}{d:TypeDesc}(h:P.underlying t=some d)(w:World):(underlying t).run P w=.ok d w:=by
  simp [underlying,program,bind,Sem.bind,Sem.run,h,pure]
theorem runBind {α β:Type}{P:Program}{m:Sem α}{f:α→Sem β}{w w':World}{x:α}(h:m.run P w=.ok x w'):(m >>= f).run P w=(f x).run P w':=by
  show(Sem.bind m f).run P w=_
  rw [Sem.run_bind',h]
  rfl
theorem underlying_bind {α:Type}{P:Program}{t:TypeId}{d:TypeDesc}(h:P.underlying t=some d)(f:TypeDesc→Sem α)(w:World):(underlying t >>= f).run P w=(f d).run P w:=by
  simp [underlying,program,bind,Sem.bind,Sem.run,h,pure]
theorem sizeOf_bind {α:Type}{P:Program}{t:TypeId}{i:TypeInfo}(h:P.info? t=some i)(f:Nat→Sem α)(w:World):(sizeOf t >>= f).run P w=(f i.size).run P w:=by
  simp [sizeOf,typeInfo,program,bind,Sem.bind,Sem.run,h,pure]
theorem addr_add (a:Addr)(h:a.spot=none)(n:Nat):a.add n=⟨a.block,a.off+n,none⟩:=by
  obtain⟨b,o,s⟩:=a
  simp only at h
  subst h
  unfold Addr.add
  split<;>simp_all
theorem sliceBound_run {k:IntKind}{n:Int}{y:Nat}{code:BoundsCode}(h:0≤n∧n≤(y:Int)):Instr.sliceBound (.int k n) y code=pure n.toNat:=by
  simp only [Instr.sliceBound,asIntOf]
  show(if 0≤n∧n≤(y:Int)then(pure n.toNat:Sem Nat)else _)=_
  rw [if_pos h]
theorem optInt_map {ρ:Operand→Value}{d n:Int}{x:Option Operand}(h:optInt ρ d x=some n):(x=none∧n=d)∨∃k,x.map ρ=some (.int k n):=by
  cases x with
  |none=>exact .inl ⟨rfl,by simpa [optInt]using h.symm⟩
  |some y=>
    simp only [optInt]at h
    split at h
    · rename_i k m hm
      obtain rfl:=Option.some.inj h;exact .inr ⟨k,by simp [hm]⟩
    · simp at h
theorem sliceBounds_run {ρ:Operand→Value}{b:Bool}{len cap:Nat}{lo hi:Option Operand}{l h:Int}(hlen:len≤cap)(hl:optInt ρ 0 lo=some l)(hh:optInt ρ (len:Int) hi=some h)(H:0≤l∧l≤h∧h≤(cap:Int)):
    Instr.sliceBounds b len cap (lo.map ρ) (hi.map ρ) none=pure (l.toNat,h.toNat,cap):=by
  unfold Instr.sliceBounds
  simp only [pure_bind]
  rcases optInt_map hh with⟨rfl,rfl⟩|⟨k,e⟩
  · rcases optInt_map hl with⟨rfl,rfl⟩|⟨k',e'⟩
    · rfl
    · rw [e']
      simp only [Option.map_none]
      rw [sliceBound_run (by omega)]
      rfl
  · rw [e]
    simp only []
    rw [sliceBound_run (by omega)]
    simp only [pure_bind]
    rcases optInt_map hl with⟨rfl,rfl⟩|⟨k',e'⟩
    · rfl
    · rw [e']
      simp only []
      rw [sliceBound_run (by omega)]
      simp only [pure_bind]
theorem indexAt_bind {α:Type}{P:Program}{t e:TypeId}{i:TypeInfo}{a:Addr}{len cap:Nat}{k:IntKind}{n:Int}(ht:P.underlying t=some (.slice e))(hi:P.info? e=some i)(hs:a.spot=none)(hr:0≤n∧n<(len:Int))(f:Value→Sem α)(w:World):
    (Instr.indexAt t (.slice (some a) len cap) (.int k n) >>= f).run P w=(f (.pointer (some ⟨a.block,a.off+n.toNat*i.size,none⟩))).run P w:=by
  unfold Instr.indexAt
  simp only [asIntOf,pure_bind,bind_assoc]
  rw [underlying_bind ht]
  simp only [pure_bind,bind_assoc]
  rw [underlying_bind ht]
  simp only [hr,and_self,if_true,bind_assoc]
  rw [sizeOf_bind hi,addr_add a hs]
  simp only [pure_bind]
theorem indexAt_bind_array {α:Type}{P:Program}{t e:TypeId}{i:TypeInfo}{a:Addr}{len:Nat}{k:IntKind}{n:Int}(ht:P.underlying t=some (.array len e))(hi:P.info? e=some i)(hs:a.spot=none)(hr:0≤n∧n<(len:Int))(f:Value→Sem α)(w:World):
    (Instr.indexAt t (.pointer (some a)) (.int k n) >>= f).run P w=(f (.pointer (some ⟨a.block,a.off+n.toNat*i.size,none⟩))).run P w:=by
  unfold Instr.indexAt
  simp only [asIntOf,pure_bind,bind_assoc]
  rw [underlying_bind ht]
  simp only [Instr.sureAddr,pure_bind,bind_assoc]
  rw [underlying_bind ht]
  simp only [hr,and_self,if_true,bind_assoc]
  rw [sizeOf_bind hi,addr_add a hs]
  simp only [pure_bind]
theorem clean2_sound {P:Program}{op:BinOp}{k k':IntKind}{a b:Int}{v:Value}{l:List Prop}(h:clean2 op k a k' b=some (v,l))(hl:AllP l)(w:World)(t:TypeId):(binOp op t (.int k a) (.int k' b)).run P w=.ok v w∧op≠.eql∧op≠.neq:=by
  unfold clean2 at h
  split at h
  · simp only [Option.some.injEq,Prod.mk.injEq]at h
    obtain⟨rfl,rfl⟩:=h;obtain⟨⟨h0,h1⟩,_⟩:=hl;have hb:¬b<0:=by omega
    simp [binOp,Op.shift,hb,pure,h1]
  · simp only [Option.some.injEq,Prod.mk.injEq]at h
    obtain⟨rfl,rfl⟩:=h;obtain⟨⟨h0,h1⟩,_⟩:=hl;have hb:¬b<0:=by omega
    simp [binOp,Op.shift,hb,pure,h1]
  · split at h
    · simp at h
    · rename_i hk
      have hk:=of_decide_eq_true hk;subst hk
      split at h
      · simp only [Option.some.injEq,Prod.mk.injEq]at h
        obtain⟨rfl,rfl⟩:=h;have h1:k.wrap (a+b)=a+b:=hl.1
        simp [binOp,Op.intArith,pure,h1]
      · simp only [Option.some.injEq,Prod.mk.injEq]at h
        obtain⟨rfl,rfl⟩:=h;have h1:k.wrap (a-b)=a-b:=hl.1
        simp [binOp,Op.intArith,pure,h1]
      · simp only [Option.some.injEq,Prod.mk.injEq]at h
        obtain⟨rfl,rfl⟩:=h;have h1:k.wrap (a*b)=a*b:=hl.1
        simp [binOp,Op.intArith,pure,h1]
      · simp only [Option.some.injEq,Prod.mk.injEq]at h
        obtain⟨rfl,rfl⟩:=h;obtain⟨⟨h0,h1⟩,_⟩:=hl
        simp [binOp,Op.intDiv,bind,Sem.bind,pure,h0,h1]
      · simp only [Option.some.injEq,Prod.mk.injEq]at h
        obtain⟨rfl,rfl⟩:=h;obtain⟨⟨h0,h1⟩,_⟩:=hl
        simp [binOp,Op.intDiv,bind,Sem.bind,pure,h0,h1]
      · split at h
        · rename_i x y
          split at h
          · rename_i z hz
            simp only [Option.some.injEq,Prod.mk.injEq]at h
            obtain⟨rfl,rfl⟩:=h;have h1:=hl.1
            cases op<;>simp only [natOp,Option.some.injEq,reduceCtorEq]at hz<;>subst hz<;>simp only [bitRaw]at h1<;>simp only [binOp,Op.intBits,ne_eq,not_true_eq_false,if_false,pure,Sem.run,h1,reduceCtorEq,not_false_eq_true,and_self,and_true]
          · simp at h
        · simp at h
theorem special_sound {P:Program}{m:Nat}{ρ:Operand→Value}{o:Oper}{v:Value}{l:List Prop}(h:special P m ρ o.op=some (v,l))(hl:AllP l)(w:World):(execOp ρ o).run P w=.ok (.value v) w:=by
  obtain⟨dst,op,type,pos,after,guard⟩:=o
  dsimp only at h
  cases op with
  |indexAddr t x i=>
    simp only [special]at h
    simp only [execOp]
    split at h
    · rename_i e a len cap k n ht hx hi
      rw [hx,hi]
      split at h
      · rename_i hs
        split at h
        · rename_i h1 h2 h3
          simp only [Option.some.injEq,Prod.mk.injEq]at h
          obtain⟨rfl,rfl⟩:=h;rw [indexAt_bind ht h3 hs hl.1];have o0:=Nat.eq_of_beq_eq_true h1;have s1:=Nat.eq_of_beq_eq_true h2
          simp only [Program.cellsOf,h3,Option.map_some,Option.getD_some]at s1
          rw [o0,s1,Nat.zero_add,Nat.mul_one]
          rfl
        · simp at h
      · rename_i hs
        split at h
        · rename_i h3
          simp only [Option.some.injEq,Prod.mk.injEq]at h
          obtain⟨rfl,rfl⟩:=h;rw [indexAt_bind ht h3 hs hl.1]
          simp only [Program.cellsOf,h3]
          rfl
        · simp at h
      · simp at h
    · rename_i len e a k n ht hx hi
      rw [hx,hi]
      split at h
      · rename_i hs
        split at h
        · rename_i h3
          simp only [Option.some.injEq,Prod.mk.injEq]at h
          obtain⟨rfl,rfl⟩:=h;rw [indexAt_bind_array ht h3 hs hl.1]
          simp only [Program.cellsOf,h3]
          rfl
        · simp at h
      · simp at h
    · simp at h
  |index t x i=>
    simp only [special]at h
    simp only [execOp,Instr.index]
    split at h
    · rename_i s k n ht hx hi
      split at h
      · simp only [Option.some.injEq,Prod.mk.injEq]at h
        obtain⟨rfl,rfl⟩:=h;obtain⟨⟨h0,h1⟩,_⟩:=hl;rw [hx,hi]
        simp only [asIntOf,pure_bind,bind_assoc]
        rw [underlying_bind ht];have hn:n.toNat<s.size:=by omega
        have:s[n.toNat]? =some s[n.toNat]:=getElem?_pos s n.toNat hn
        simp only [h0,if_true,this]
        have hb:(s[n.toNat].toNat:Int)=bat s n:=by
          unfold bat
          have hd:n.toNat<s.data.toList.length:=by simpa using hn
          rw [List.getD_eq_getElem?_getD,List.getElem?_eq_getElem hd]
          rfl
        rw [hb]
        rfl
      · simp at h
    · simp at h
  |binOp op xt x y yt=>
    simp only [special]at h
    simp only [execOp]
    split at h
    · rename_i k a k' b hx hy
      split at h
      · rename_i hk
        have hk:=of_decide_eq_true hk;subst hk
        simp only [Option.some.injEq,Prod.mk.injEq]at h
        obtain⟨rfl,rfl⟩:=h;rw [hx,hy];have hb:¬b=0:=hl.1
        simp [eqGuard,binOp,Op.intDiv,hb,bind,Sem.bind,pure]
      · simp at h
    · rename_i k a k' b hx hy
      split at h
      · rename_i hk
        have hk:=of_decide_eq_true hk;subst hk
        simp only [Option.some.injEq,Prod.mk.injEq]at h
        obtain⟨rfl,rfl⟩:=h;rw [hx,hy];have hb:¬b=0:=hl.1
        simp [eqGuard,binOp,Op.intDiv,hb,bind,Sem.bind,pure]
      · simp at h
    · rename_i k a k' b hx hy
      simp only [Option.some.injEq,Prod.mk.injEq]at h
      obtain⟨rfl,rfl⟩:=h;rw [hx,hy];have hb:¬b<0:=by have:=hl.1;omega
      simp [eqGuard,binOp,Op.shift,hb,bind,Sem.bind,pure]
    · rename_i k a k' b hx hy
      simp only [Option.some.injEq,Prod.mk.injEq]at h
      obtain⟨rfl,rfl⟩:=h;rw [hx,hy];have hb:¬b<0:=by have:=hl.1;omega
      simp [eqGuard,binOp,Op.shift,hb,bind,Sem.bind,pure]
    · rename_i a b hx hy
      simp only [Option.some.injEq,Prod.mk.injEq]at h
      obtain⟨rfl,rfl⟩:=h;rw [hx,hy];have hb:¬(((a.size+b.size:Nat):Int)>IntKind.i64.max):=by have:=hl.1;omega
      simp only [eqGuard,binOp,Op.stringOp,if_neg hb]
      rfl
    · rename_i op _ _ _ _ k a k' b hx hy
      rw [hx,hy];obtain⟨h1,h2,h3⟩:=clean2_sound (P:=P) h hl w xt;have hg:(eqGuard op xt x y (.int k a) (.int k' b)).run P w=.ok () w:=by cases op<;>simp_all [eqGuard,pure,Sem.run]
      have hq:(eqGuard op xt x y (.int k a) (.int k' b) >>= fun _=>binOp op xt (.int k a) (.int k' b)).run P w=.ok v w:=by rw [runBind hg];exact h1
      exact(runBind hq).trans rfl
    · simp at h
  |convert src dst x=>
    simp only [special]at h
    simp only [execOp]
    split at h
    · rename_i ts k k' n hs ht hx
      simp only [Option.some.injEq,Prod.mk.injEq]at h
      obtain⟨rfl,rfl⟩:=h;have h1:k.wrap n=n:=hl.1;rw [hx]
      have:(convert src dst (.int k' n)).run P w=.ok (.int k n) w:=by
        unfold convert
        rw [underlying_bind hs,underlying_bind ht]
        simp [Conv.intToInt,pure,Sem.run,h1]
      show(convert src dst (.int k' n) >>= fun v=>pure (Next.value v)).run P w=_
      rw [runBind this]
      rfl
    · simp at h
  |slice t x lo hi mx=>
    cases mx with
    |some m=>simp [special]at h
    |none=>
      simp only [special]at h
      simp only [execOp]
      split at h
      · rename_i s ht hx
        split at h
        · rename_i l hh h1 h2
          simp only [Option.some.injEq,Prod.mk.injEq]at h
          obtain⟨rfl,rfl⟩:=h;obtain⟨H,_⟩:=hl;rw [hx]
          simp only [Option.map_none,Instr.sliceAt,bind_assoc]
          rw [underlying_bind ht]
          simp only [Instr.slice,bind_assoc]
          rw [underlying_bind ht]
          simp only [Option.isSome_none,Bool.false_eq_true,if_false,pure_bind,bind_assoc]
          rw [sliceBounds_run (Nat.le_refl _) h1 h2 H]
          rfl
        · simp at h
      · rename_i e o len cap ht hx
        split at h
        · rename_i i l hh h1 h2 h3
          split at h
          · rename_i a
            split at h
            · rename_i hs
              simp only [Option.some.injEq,Prod.mk.injEq]at h
              obtain⟨rfl,rfl⟩:=h;obtain⟨⟨g1,g2,g3,g4⟩,_⟩:=hl;rw [hx]
              simp only [Option.map_none,Instr.sliceAt,bind_assoc]
              rw [underlying_bind ht]
              simp only [Instr.slice,bind_assoc]
              rw [underlying_bind ht]
              simp only [bind_assoc]
              rw [sliceBounds_run g4 h2 h3 ⟨g1,g2,g3⟩]
              simp only [pure_bind]
              rw [sizeOf_bind h1]
              have:(if cap=l.toNat then some a else(some a).map (·.add (l.toNat*i.size)))=some ⟨a.block,sadd cap l.toNat a.off (P.cellsOf e),none⟩:=by
                simp only [Option.map_some,addr_add a hs,sadd,Program.cellsOf,h1,Option.getD_some]
                split
                · obtain⟨b,o,s⟩:=a;simp only at hs;subst hs;rfl
                · rfl
              rw [this]
              rfl
            · simp at h
          · simp at h
        · rename_i i l hh h1 h2 h3
          split at h
          · simp only [Option.some.injEq,Prod.mk.injEq]at h
            obtain⟨rfl,rfl⟩:=h;obtain⟨⟨g2,g3,g4,rfl⟩,_⟩:=hl;rw [hx]
            simp only [Option.map_none,Instr.sliceAt,bind_assoc]
            rw [underlying_bind ht]
            simp only [Instr.slice,bind_assoc]
            rw [underlying_bind ht]
            simp only [bind_assoc]
            have:=sliceBounds_run (lo:=none) (b:=true) g4 h2 h3 ⟨Int.le_refl 0,g2,g3⟩;rw [Option.map_none]at this;rw [this]
            simp only [pure_bind]
            rw [sizeOf_bind h1]
            have:(if cap=(0:Int).toNat then o else o.map (·.add ((0:Int).toNat*i.size)))=o:=by
              split
              · rfl
              · cases o<;>simp [Addr.add]
            rw [this]
            rfl
          · simp at h
        · simp at h
      · simp at h
  |_=>simp [special]at h
structure Hint where
  g:Nat
  m:Nat
  h:Nat
  fx:Option Value:=none
def Hint.of (n:Nat):Hint:=⟨n%10,n/10%10,n/100,none⟩
instance (n:Nat):OfNat Hint n:=⟨Hint.of n⟩
def fx (n:Nat)(v:Value):Hint:= { Hint.of n with fx:=some v }
def fixV (v:Value)(s:LS):Option Value→Option (Option Value×LS)
  |none=>some (some v,s)
  |some u=>some (some u,{ s with ob:=(v=u)::s.ob })
def evMake (P:Program)(ν:Nat→Nat)(ρ:Operand→Value)(s:LS):Op→Option (Value×LS)
  | .makeSlice t l c=>match P.underlying t with
    |some (.slice e)=>match P.info? e,ρ l,ρ c with
      |some i,.int .i64 n,.int .i64 n'=>match i.zero,Nat.beq i.size 1 with
        |some z,true=>match oneCell z with
          |true=>some (.slice (some ⟨ν s.k,0,none⟩) n.toNat n.toNat,{ heap:=s.heap++[(ν s.k,.row e n.toNat n.toNat (fun _=>z))],k:=s.k+1,ob:=(n=n')::(0≤n∧n≤2^32∧i.bytes≤64)::s.ob })
          |false=>none
        |_,_=>none
      |_,_,_=>none
    |_=>none
  |_=>none
def zf (P:Program)(t:TypeId)(o:Nat):Value:=match P.info? t with
  |some i=>match i.zero with
    |some z=>z.cells.getD o undef
    |none=>undef
  |none=>undef
def evAlloc (P:Program)(ν:Nat→Nat)(s:LS):Op→Option (Value×LS)
  | .alloc t=>match P.info? t with
    |some i=>match i.zero with
      |some z=>some (.pointer (some ⟨ν s.k,0,none⟩),{ heap:=s.heap++[(ν s.k,.row t i.size i.size (zf P t))],k:=s.k+1,ob:=(z.cells.size=i.size)::s.ob })
      |none=>none
    |none=>none
  |_=>none
def evVal0 (P:Program)(ν:Nat→Nat)(ro:Bool)(m h:Nat)(ρ:Operand→Value)(o:Oper)(s:LS):Option (Option Value×LS):=
  match m with
  |0=>match absRun P h ν ro (execOp ρ o) s with
    |some (.value v,s')=>some (some v,s')
    |some (.skip,s')=>some (none,s')
    |_=>none
  |9=>match ro,evMake P ν ρ s o.op with
    |false,some (v,s')=>some (some v,s')
    |_,_=>none
  |5=>match ro,evAlloc P ν s o.op with
    |false,some (v,s')=>some (some v,s')
    |_,_=>none
  |m=>match special P m ρ o.op with
    |some (v,l)=>some (some v,{ s with ob:=l++s.ob })
    |none=>none
def evVal (P:Program)(ν:Nat→Nat)(ro:Bool)(m h:Nat)(fx:Option Value)(ρ:Operand→Value)(o:Oper)(s:LS):Option (Option Value×LS):=
  match evVal0 P ν ro m h ρ o s with
  |some (some v,s')=>fixV v s' fx
  |r=>r
def condP (E:Env):Conds→Prop
  |[]=>True
  |p::l=>(match look E p.1 with
    |some (_,.bool x)=>x=p.2
    |_=>True)∧condP E l
def closedC (E:Env)(C:Conds):Conds→Bool
  |[]=>true
  |p::l=>(match look E p.1 with
    |some (cs,_)=>sub cs C
    |none=>false)&&closedC E C l
def pickForm (a b:Operand)(x y z:Bool):Bool:=match b with
  | .const (.bool false)=>x&&y
  |_=>match a with
    | .const (.bool true)=>x||z
    |_=>cond x y z
theorem pickForm_eq {a b:Operand}{x y z:Bool}(ha:a=.const (.bool true)→y=true)(hb:b=.const (.bool false)→z=false):pickForm a b x y z=cond x y z:=by
  unfold pickForm
  split
  · rw [hb rfl];cases x<;>rfl
  · split
    · rw [ha rfl];cases x<;>rfl
    · rfl
def evPick (E:Env)(C:Conds):Op→Option Value
  | .pick (.tmp t) a b=>match okO E C (.tmp t)&&okO E ((t,true)::C) a&&okO E ((t,false)::C) b with
    |true=>match rho E (.tmp t),rho E a,rho E b with
      | .bool x,.bool y,.bool z=>some (.bool (pickForm a b x y z))
      |_,_,_=>none
    |false=>none
  |_=>none
def isNil:Conds→Bool
  |[]=>true
  |_=>false
def evDec (E:Env)(C:Conds)(b:Bool):Op→Option (Value×Prop)
  | .pick c x y=>match isNil C&&okO E [] c&&okO E [] (if b then x else y)with
    |true=>some (rho E (if b then x else y),rho E c=.bool b)
    |false=>none
  |_=>none
def evDst (n:Nat)(E:Env)(C:Conds)(dst:Option Nat)(r:Option Value):Option Env:=
  match dst with
  |none=>some E
  |some d=>match Nat.blt d n,named C d with
    |true,false=>match r with
      |some v=>some (putE E d C v)
      |none=>some (strike E d)
    |_,_=>none
def wrapOb (E:Env)(C:Conds)(l:List Prop)(s:LS):LS:=match C with
  |[]=> { s with ob:=s.ob++l }
  |_=>match s.ob with
    |[]=> { s with ob:=l }
    |_=> { s with ob:=(condP E C→AllP s.ob)::l }
def evRunDec (n:Nat)(C:Conds)(b:Bool)(o:Oper)(E:Env)(s:LS):Option (Env×LS):=
  match evDec E C b o.op with
  |some (v,p)=>match evDst n E C o.dst (some v)with
    |some E'=>some (E',{ s with ob:=p::s.ob })
    |none=>none
  |none=>none
def evRun (P:Program)(n:Nat)(q:Bool)(ν:Nat→Nat)(C:Conds)(hn:Hint)(o:Oper)(E:Env)(s:LS):Option (Env×LS):=
  match hn.m with
  |8=>match evPick E C o.op with
    |some v=>match evDst n E C o.dst (some v)with
      |some E'=>some (E',s)
      |none=>none
    |none=>none
  |7=>evRunDec n C true o E s
  |6=>evRunDec n C false o E s
  |m=>match opKnown o.op&&okAll E C o.op.operands.toList&&closedC E C C with
    |true=>match evVal P ν (q|| !isNil C) m hn.h hn.fx (rho E) o { s with ob:=[] } with
      |some (r,s')=>match evDst n E C o.dst r with
        |some E'=>some (E',wrapOb E C s.ob s')
        |none=>none
      |none=>none
    |false=>none
def guardSlot (ops:Array Oper)(o:Oper):Option (Nat×Bool):=match o.guard with
  |some (j,want)=>match(ops[j]?).bind (·.dst)with
    |some d=>some (d,want)
    |none=>none
  |none=>none
def evOp (P:Program)(n:Nat)(q:Bool)(ops:Array Oper)(ν:Nat→Nat)(hn:Hint)(o:Oper)(E:Env)(s:LS):Option (Env×LS):=
  match hn.g with
  |0=>match o.guard with
    |none=>evRun P n q ν [] hn o E s
    |some _=>none
  |1=>match guardSlot ops o with
    |some (d,want)=>match look E d with
      |some ([],v)=>match evRun P n q ν [] hn o E s with
        |some (E',s')=>some (E',{ s' with ob:=(v=.bool want)::s'.ob })
        |none=>none
      |_=>none
    |none=>none
  |2=>match guardSlot ops o with
    |some (d,want)=>match look E d with
      |some ([],v)=>match evDst n E [] o.dst (some undef)with
        |some E'=>some (E',{ s with ob:=(v=.bool (!want))::s.ob })
        |none=>none
      |_=>none
    |none=>none
  |4=>match guardSlot ops o with
    |some (d,want)=>match look E d with
      |some ([],v)=>match evDst n E [] o.dst (some undef)with
        |some E'=>some (E',{ s with ob:=(v=undef)::s.ob })
        |none=>none
      |_=>none
    |none=>none
  |3=>match guardSlot ops o with
    |some (d,want)=>match look E d with
      |some (cs,_)=>evRun P n q ν ((d,want)::cs) hn o E s
      |none=>none
    |none=>none
  |_=>none
def evOps (P:Program)(n:Nat)(q:Bool)(ops:Array Oper)(ν:Nat→Nat):List Hint→List Oper→Env→LS→Option (Env×LS)
  |[],[],E,s=>some (E,s)
  |hn::hs,o::l,E,s=>match evOp P n q ops ν hn o E s with
    |some (E',s')=>evOps P n q ops ν hs l E' s'
    |none=>none
  |_,_,_,_=>none
theorem agree_dst {n:Nat}{E E':Env}{C:Conds}{dst:Option Nat}{r:Option Value}{a:Act}{v:Value}(h:evDst n E C dst r=some E')(hE:Agree E a)(hn:n≤a.tmps.size)(hv:∀u,r=some u→(Holds a C∧v=u)∨(¬Holds a C∧v=undef)):Agree E' (a.put dst v):=by
  cases dst with
  |none=>
    simp only [evDst,Option.some.injEq]at h
    subst h;exact hE
  |some d=>
    simp only [evDst]at h
    split at h
    · rename_i h1 h2
      have hd:d<n:=by simpa using h1
      split at h
      · rename_i u
        obtain rfl:=Option.some.inj h;exact agree_put hE (by omega) h2 (hv u rfl)
      · obtain rfl:=Option.some.inj h
        exact agree_strike hE d v
    · simp at h
theorem condP_of {E:Env}{a:Act}{C:Conds}(hE:Agree E a)(hC:Holds a C):∀(D:Conds),closedC E C D=true→(∀p∈D,p∈C)→condP E D:=by
  intro D
  induction D with
  |nil=>intro _ _;trivial
  |cons p l ih=>
    intro hc hm
    simp only [closedC,Bool.and_eq_true]at hc
    refine⟨?_,ih hc.2 fun q hq=>hm q (List.mem_cons_of_mem _ hq)⟩
    split
    · rename_i cs x hl
      have h1:=hc.1;rw [hl]at h1;have:=hE.at (look_mem hl) (hC.sub h1);have h2:=hC p (hm p List.mem_cons_self);rw [show(p.1,cs,Value.bool x).1=p.1 from rfl,h2]at this;exact(Value.bool.inj this).symm
    · trivial
theorem wrap_own {E:Env}{C:Conds}{l:List Prop}{s:LS}(h:AllP (wrapOb E C l s).ob)(hc:condP E C):AllP s.ob:=by
  cases C with
  |nil=>exact(allP_append h).1
  |cons p C=>
    obtain⟨hp,k,ob⟩:=s
    cases ob with
    |nil=>trivial
    |cons q ob=>exact h.1 hc
theorem wrap_heap {E:Env}{C:Conds}{l:List Prop}{s:LS} :(wrapOb E C l s).heap=s.heap∧(wrapOb E C l s).k=s.k∧∃m,(wrapOb E C l s).ob=m++l:=by
  cases C with
  |nil=>exact⟨rfl,rfl,s.ob,rfl⟩
  |cons p C=>
    obtain⟨hp,k,ob⟩:=s
    cases ob with
    |nil=>exact⟨rfl,rfl,[],rfl⟩
    |cons q ob=>exact⟨rfl,rfl,[_],rfl⟩
theorem run_bind_ok {α β:Type}{P:Program}{m:Sem α}{f:α→Sem β}{w w':World}{x:α}(h:m.run P w=.ok x w'):(m >>= f).run P w=(f x).run P w':=by
  show(Sem.bind m f).run P w=_
  rw [Sem.run_bind',h]
  rfl
theorem evMake_sound {P:Program}{ν:Nat→Nat}{ρ:Operand→Value}{s s':LS}{o:Oper}{v:Value}{w:World}(he:evMake P ν ρ s o.op=some (v,s'))(F:Fine ν s w)(hob:AllP s'.ob):
    ∃w',(execOp ρ o).run P w=.ok (.value v) w'∧Fine ν s' w'∧Own s.heap w w'∧Grew w s s':=by
  obtain⟨dst,op,type,pos,after,guard⟩:=o
  dsimp only at he
  cases op with
  |makeSlice t l c=>
    simp only [evMake]at he
    split at he
    · rename_i e ht
      split at he
      · rename_i i n n' hi hl hc
        split at he
        · rename_i z hz hsz
          split at he
          · rename_i hone
            simp only [Option.some.injEq,Prod.mk.injEq]at he
            obtain⟨rfl,rfl⟩:=he;obtain⟨rfl,⟨h0,h1,h2⟩,_⟩:=hob;have hs1:=Nat.eq_of_beq_eq_true hsz;have hzc:z.cells=#[z]:=by cases z<;>simp_all [oneCell,Value.cells]
            have hb:(i.bytes:Int)*n≤281474976710656:=by
              have:(i.bytes:Int)*n≤64*n:=Int.mul_le_mul_of_nonneg_right (by omega) h0;omega
            have hk:ν s.k=w.heap.size:=F.name 0
            have hmade:madeCells z.cells (n.toNat*i.size)=Array.replicate n.toNat z:=by
              apply Array.ext
              · simp [madeCells,hs1]
              · intro j h1 h2
                simp [madeCells,hzc,Nat.mod_one]
            have hrun:=run_make (P:=P) w t e i z ht hi hz .i64 .i64 n n h0 (Int.le_refl _) hb (by omega);rw [hmade]at hrun;refine⟨w.alloc (.cells (Array.replicate n.toNat z) e),?_,?_,own_alloc _ _ _,?_⟩
            · simp only [execOp,hl,hc,hk]
              show((Instr.makeSlice t (.int .i64 n) (.int .i64 n) >>= fun v=>pure (Next.value v)).run P w)=_
              rw [run_bind_ok hrun]
              rfl
            · refine fine_alloc F ⟨_,heap_alloc_self _ _,by simp,Nat.le_refl _,fun o ho=>?_⟩
              simp [ho]
            · exact(grew_alloc (ν:=ν) (w:=w) (s:=s) (x:=.row e n.toNat n.toNat (fun _=>z)) hk rfl).trans (grew_ob (w:=w) [_,_]) (Nat.le_refl _)
          · simp at he
        · simp at he
      · simp at he
    · simp at he
  |_=>simp [evMake]at he
structure Ran (P:Program)(ν:Nat→Nat)(o:Oper)(a:Act)(s:LS)(w:World)(r:Option Value)(s':LS)(w':World):Prop where
  run:(execOp a.eval o).run P w=.ok (match r with|some v=>.value v|none=>.skip) w'
  fine:Fine ν s' w'
  own:Own s.heap w w'
  grew:Grew w s s'
theorem fixV_some {v:Value}{s s':LS}{x:Option Value}{r:Option Value}(h:fixV v s x=some (r,s')):∃u,r=some u∧s'.heap=s.heap∧s'.k=s.k∧∃l,s'.ob=l++s.ob∧(AllP s'.ob→u=v):=by
  cases x with
  |none=>
    simp only [fixV,Option.some.injEq,Prod.mk.injEq]at h
    obtain⟨rfl,rfl⟩:=h;exact⟨v,rfl,rfl,rfl,[],rfl,fun _=>rfl⟩
  |some y=>
    simp only [fixV,Option.some.injEq,Prod.mk.injEq]at h
    obtain⟨rfl,rfl⟩:=h;exact⟨y,rfl,rfl,rfl,[_],rfl,fun h=>h.1.symm⟩
theorem evAlloc_sound {P:Program}{ν:Nat→Nat}{ρ:Operand→Value}{s s':LS}{o:Oper}{v:Value}{w:World}(he:evAlloc P ν s o.op=some (v,s'))(F:Fine ν s w)(hob:AllP s'.ob):
    ∃w',(execOp ρ o).run P w=.ok (.value v) w'∧Fine ν s' w'∧Own s.heap w w'∧Grew w s s':=by
  obtain⟨dst,op,type,pos,after,guard⟩:=o
  dsimp only at he
  cases op with
  |alloc t=>
    simp only [evAlloc]at he
    split at he
    · rename_i i hi
      split at he
      · rename_i z hz
        simp only [Option.some.injEq,Prod.mk.injEq]at he
        obtain⟨rfl,rfl⟩:=he;have hsz:z.cells.size=i.size:=hob.1;have hk:ν s.k=w.heap.size:=F.name 0;refine⟨w.alloc (.cells z.cells t (0,0)),?_,?_,own_alloc _ _ _,?_⟩
        · simp only [execOp,hk]
          have h0:(zeroValue t).run P w=.ok z w:=by simp [zeroValue,typeInfo,program,bind,Sem.bind,Sem.run,hi,hz,pure]
          have h1:(newVar t z).run P w=.ok ⟨w.heap.size,0,none⟩ (w.alloc (.cells z.cells t (0,0))):=rfl
          show((zeroValue t >>= fun z=>newVar t z >>= fun a=>pure (Value.pointer (some a))) >>= fun v=>pure (Next.value v)).run P w=_
          have h2:(zeroValue t >>= fun z=>newVar t z >>= fun a=>pure (Value.pointer (some a))).run P w=.ok (.pointer (some ⟨w.heap.size,0,none⟩)) (w.alloc (.cells z.cells t (0,0))):=by
            rw [runBind h0,runBind h1];rfl
          rw [runBind h2];rfl
        · refine fine_alloc F ⟨_,heap_alloc_self _ _,hsz,Nat.le_refl _,fun o ho=>?_⟩
          show _=some (zf P t o)
          rw [show zf P t o=z.cells.getD o undef by simp only [zf,hi,hz]];rw [Array.getD_eq_getD_getElem?,Array.getElem?_eq_getElem (by omega)]
          rfl
        · exact(grew_alloc (ν:=ν) (w:=w) (s:=s) (x:=.row t i.size i.size (zf P t)) hk rfl).trans (grew_ob (w:=w) [_]) (Nat.le_refl _)
      · simp at he
    · simp at he
  |_=>simp [evAlloc]at he
theorem evVal0_sound {P:Program}{ν:Nat→Nat}{ro:Bool}{m h:Nat}{ρ:Operand→Value}{o:Oper}{s s':LS}{r:Option Value}{w:World}(he:evVal0 P ν ro m h ρ o s=some (r,s'))(F:Fine ν s w)(hob:AllP s'.ob):
    ∃w',(execOp ρ o).run P w=.ok (match r with|some v=>.value v|none=>.skip) w'∧Fine ν s' w'∧Own s.heap w w'∧Grew w s s'∧(ro=true→w'=w∧s'.heap=s.heap∧s'.k=s.k):=by
  unfold evVal0 at he
  split at he
  · split at he
    · rename_i v s1 h1
      simp only [Option.some.injEq,Prod.mk.injEq]at he
      obtain⟨rfl,rfl⟩:=he;exact absRun_sound P h ν ro _ s w _ _ h1 F hob
    · rename_i s1 h1
      simp only [Option.some.injEq,Prod.mk.injEq]at he
      obtain⟨rfl,rfl⟩:=he;exact absRun_sound P h ν ro _ s w _ _ h1 F hob
    · simp at he
  · split at he
    · rename_i v s1 h1
      simp only [Option.some.injEq,Prod.mk.injEq]at he
      obtain⟨rfl,rfl⟩:=he;obtain⟨w',h2,h3,h4,h5⟩:=evMake_sound h1 F hob;exact⟨w',h2,h3,h4,h5,fun h=>by cases h⟩
    · simp at he
  · split at he
    · rename_i v s1 h1
      simp only [Option.some.injEq,Prod.mk.injEq]at he
      obtain⟨rfl,rfl⟩:=he;obtain⟨w',h2,h3,h4,h5⟩:=evAlloc_sound (ρ:=ρ) h1 F hob;exact⟨w',h2,h3,h4,h5,fun h=>by cases h⟩
    · simp at he
  · split at he
    · rename_i v l h1
      simp only [Option.some.injEq,Prod.mk.injEq]at he
      obtain⟨rfl,rfl⟩:=he;exact⟨w,special_sound h1 (allP_append hob).1 w,F.ob _,.refl _ _,grew_ob l,fun _=>⟨rfl,rfl,rfl⟩⟩
    · simp at he
theorem evVal_sound {fx:Option Value}{P:Program}{ν:Nat→Nat}{ro:Bool}{m h:Nat}{ρ:Operand→Value}{o:Oper}{s s':LS}{r:Option Value}{w:World}(he:evVal P ν ro m h fx ρ o s=some (r,s'))(F:Fine ν s w)(hob:AllP s'.ob):
    ∃w',(execOp ρ o).run P w=.ok (match r with|some v=>.value v|none=>.skip) w'∧Fine ν s' w'∧Own s.heap w w'∧Grew w s s'∧(ro=true→w'=w∧s'.heap=s.heap∧s'.k=s.k):=by
  unfold evVal at he
  split at he
  · rename_i v s1 h1
    obtain⟨u,rfl,e1,e2,l,e3,e4⟩:=fixV_some he;have hu:=e4 hob;subst hu;rw [e3]at hob;obtain⟨w',k1,k2,k3,k4,k5⟩:=evVal0_sound h1 F (allP_append hob).2;refine⟨w',k1,⟨by rw [e1];exact k2.holds,by rw [e1];exact k2.apart,by rw [e2];exact k2.name⟩,k3,⟨by rw [e1];exact k4.old,by rw [e1];exact k4.new,?_⟩,fun h=>by rw [e1,e2];exact k5 h⟩;obtain⟨m,hm⟩:=k4.obs;exact⟨l++m,by rw [e3,hm,List.append_assoc]⟩
  · exact evVal0_sound he F hob
theorem evPick_sound {P:Program}{E:Env}{C:Conds}{o:Oper}{v:Value}{a:Act}(h:evPick E C o.op=some v)(hE:Agree E a)(hC:Holds a C)(w:World):(execOp a.eval o).run P w=.ok (.value v) w:=by
  obtain⟨dst,op,type,pos,after,guard⟩:=o
  dsimp only at h
  cases op with
  |pick c x y=>
    cases c with
    |tmp t=>
      simp only [evPick]at h
      split at h
      · rename_i hok
        simp only [Bool.and_eq_true]at hok
        split at h
        · rename_i b p q h1 h2 h3
          simp only [Option.some.injEq]at h
          rw [pickForm_eq (fun e=>by rw [e]at h2;exact(Value.bool.inj h2).symm) (fun e=>by rw [e]at h3;exact(Value.bool.inj h3).symm)]at h;subst h;have ec:a.eval (.tmp t)=.bool b:=by rw [agree_eval hE hC hok.1.1,h1]
          have et:a.tmps.getD t undef=.bool b:=ec
          simp only [execOp,ec]
          cases b with
          |true=>
            have hC':Holds a ((t,true)::C):=by
              intro z hz
              rcases List.mem_cons.1 hz with rfl|hz
              · exact et
              · exact hC z hz
            have:=agree_eval hE hC' hok.1.2;rw [h2]at this
            show Result.ok (Next.value (a.eval x)) w=_
            rw [this];rfl
          |false=>
            have hC':Holds a ((t,false)::C):=by
              intro z hz
              rcases List.mem_cons.1 hz with rfl|hz
              · exact et
              · exact hC z hz
            have:=agree_eval hE hC' hok.2;rw [h3]at this
            show Result.ok (Next.value (a.eval y)) w=_
            rw [this];rfl
        · simp at h
      · simp at h
    |_=>simp [evPick]at h
  |_=>simp [evPick]at h
theorem evDec_sound {P:Program}{E:Env}{C:Conds}{b:Bool}{o:Oper}{v:Value}{p:Prop}{a:Act}(h:evDec E C b o.op=some (v,p))(hE:Agree E a)(hp:p)(w:World):C=[]∧(execOp a.eval o).run P w=.ok (.value v) w:=by
  obtain⟨dst,op,type,pos,after,guard⟩:=o
  dsimp only at h
  cases op with
  |pick c x y=>
    simp only [evDec]at h
    split at h
    · rename_i hok
      simp only [Bool.and_eq_true]at hok
      simp only [Option.some.injEq,Prod.mk.injEq]at h
      obtain⟨rfl,rfl⟩:=h
      have hC:C=[]:=by cases C with
        |nil=>rfl
        |cons q C=>simp [isNil]at hok
      refine⟨hC,?_⟩;have hn:Holds a []:=fun q hq=>nomatch hq
      have e1:=agree_eval hE hn hok.1.2;have e2:=agree_eval hE hn hok.2;rw [hp]at e1
      simp only [execOp,e1]
      cases b with
      |true=>show Result.ok (Next.value (a.eval x)) w=_;simp only [if_true]at e2;rw [e2];rfl
      |false=>show Result.ok (Next.value (a.eval y)) w=_;simp only [Bool.false_eq_true,if_false]at e2;rw [e2];rfl
    · simp at h
  |_=>simp [evDec]at h
theorem evRunDec_spec {n:Nat}{C:Conds}{b:Bool}{o:Oper}{E E':Env}{s s':LS}(he:evRunDec n C b o E s=some (E',s')):∃v p,evDec E C b o.op=some (v,p)∧evDst n E C o.dst (some v)=some E'∧s'= { s with ob:=p::s.ob } :=by
  unfold evRunDec at he
  split at he
  · rename_i v p hv
    split at he
    · rename_i E1 hd
      simp only [Option.some.injEq,Prod.mk.injEq]at he
      obtain⟨rfl,rfl⟩:=he;exact⟨v,p,hv,hd,rfl⟩
    · simp at he
  · simp at he
theorem evRun_sound {P:Program}{n:Nat}{q:Bool}{ν:Nat→Nat}{C:Conds}{hn:Hint}{o:Oper}{E E':Env}{s s':LS}{a:Act}{w:World}(he:evRun P n q ν C hn o E s=some (E',s'))(hE:Agree E a)(hsz:n≤a.tmps.size)(hC:Holds a C)(F:Fine ν s w)(hob:AllP s'.ob):
    ∃r w',Ran P ν o a s w r s' w'∧Agree E' (a.put o.dst (r.getD undef)):=by
  unfold evRun at he
  split at he
  · split at he
    · rename_i v hv
      split at he
      · rename_i E1 hd
        simp only [Option.some.injEq,Prod.mk.injEq]at he
        obtain⟨rfl,rfl⟩:=he;exact⟨some v,w,⟨evPick_sound hv hE hC w,F,.refl _ _,.refl _ _⟩,agree_dst hd hE hsz fun u hu=>.inl ⟨hC,by obtain rfl:=Option.some.inj hu;rfl⟩⟩
      · simp at he
    · simp at he
  · obtain⟨v,p,hv,hd,rfl⟩:=evRunDec_spec he
    exact⟨some v,w,⟨(evDec_sound hv hE hob.1 w).2,F.ob _,.refl _ _,grew_ob [_]⟩,agree_dst hd hE hsz fun u hu=>.inl ⟨hC,by obtain rfl:=Option.some.inj hu;rfl⟩⟩
  · obtain⟨v,p,hv,hd,rfl⟩:=evRunDec_spec he
    exact⟨some v,w,⟨(evDec_sound hv hE hob.1 w).2,F.ob _,.refl _ _,grew_ob [_]⟩,agree_dst hd hE hsz fun u hu=>.inl ⟨hC,by obtain rfl:=Option.some.inj hu;rfl⟩⟩
  · split at he
    · rename_i hok
      simp only [Bool.and_eq_true]at hok
      split at he
      · rename_i r s1 hv
        split at he
        · rename_i E1 hd
          simp only [Option.some.injEq,Prod.mk.injEq]at he
          obtain⟨rfl,rfl⟩:=he;have hcond:=condP_of hE hC C hok.2 (fun p hp=>hp);have hob1:AllP s1.ob:=wrap_own hob hcond;have heq:execOp a.eval o=execOp (rho E) o:=execOp_congr o hok.1.1 fun x hx=>agree_eval hE hC (okAll_mem hok.1.2 x hx)
          obtain⟨w',h1,h2,h3,h4,h5⟩:=evVal_sound hv (F.ob _) hob1;refine⟨r,w',⟨by rw [heq];exact h1,?_,h3,?_⟩,agree_dst hd hE hsz fun u hu=>.inl ⟨hC,by rw [hu];rfl⟩⟩
          · obtain⟨e1,e2,_⟩:=wrap_heap (E:=E) (C:=C) (l:=s.ob) (s:=s1)
            exact⟨by rw [e1];exact h2.holds,by rw [e1];exact h2.apart,by rw [e2];exact h2.name⟩
          · obtain⟨e1,e2,e3⟩:=wrap_heap (E:=E) (C:=C) (l:=s.ob) (s:=s1)
            exact⟨by rw [e1];exact h4.old,by rw [e1];exact h4.new,e3⟩
        · simp at he
      · simp at he
    · simp at he
theorem evRun_obs {P:Program}{n:Nat}{q:Bool}{ν:Nat→Nat}{C:Conds}{hn:Hint}{o:Oper}{E E':Env}{s s':LS}(he:evRun P n q ν C hn o E s=some (E',s')):∃l,s'.ob=l++s.ob:=by
  unfold evRun at he
  split at he
  · split at he
    · split at he
      · simp only [Option.some.injEq,Prod.mk.injEq]at he
        obtain⟨rfl,rfl⟩:=he;exact⟨[],rfl⟩
      · simp at he
    · simp at he
  · obtain⟨v,p,hv,hd,rfl⟩:=evRunDec_spec he;exact⟨[_],rfl⟩
  · obtain⟨v,p,hv,hd,rfl⟩:=evRunDec_spec he;exact⟨[_],rfl⟩
  · split at he
    · split at he
      · rename_i r s1 hv
        split at he
        · simp only [Option.some.injEq,Prod.mk.injEq]at he
          obtain⟨rfl,rfl⟩:=he;exact(wrap_heap (E:=E) (C:=C) (l:=s.ob) (s:=s1)).2.2
        · simp at he
      · simp at he
    · simp at he
theorem absRun_ro {α:Type}(P:Program)(h:Nat)(ν:Nat→Nat)(m:Sem α):∀(s:LS) (x:α) (s':LS),absRun P h ν true m s=some (x,s')→s'.heap=s.heap∧s'.k=s.k:=by
  induction m with
  |pure a=>intro s x s' he;simp only [absRun,Option.some.injEq,Prod.mk.injEq]at he;rw [←he.2];exact⟨rfl,rfl⟩
  |load md a k ih=>
    intro s x s' he
    simp only [absRun]at he
    split at he
    · split at he
      · have:=ih _ _ x s' he;exact this
      · simp at he
    · split at he
      · have:=ih _ _ x s' he;exact this
      · simp at he
    · split at he
      · have:=ih _ _ x s' he;exact this
      · simp at he
    · simp at he
  |store md a v k ih=>intro s x s' he;simp [absRun]at he
  |new o k ih=>intro s x s' he;simp [absRun]at he
  |shape r k ih=>
    intro s x s' he
    simp only [absRun]at he
    split at he
    · have:=ih _ _ x s' he;exact this
    · simp at he
  |freeze a n k ih=>intro s x s' he;simp [absRun]at he
  |frozen a k ih=>
    intro s x s' he
    simp only [absRun]at he
    split at he
    · have:=ih _ _ x s' he;exact this
    · simp at he
  |getObj r k ih=>intro s x s' he;simp [absRun]at he
  |setObj r o k ih=>intro s x s' he;simp [absRun]at he
  |choose q k ih=>intro s x s' he;simp [absRun]at he
  |sys c k ih=>intro s x s' he;simp [absRun]at he
  |program k ih=>intro s x s' he;exact ih P s x s' he
  |mark mm k ih=>intro s x s' he;exact ih s x s' he
  |halt hh=>intro s x s' he;simp [absRun]at he
theorem evVal0_ro {P:Program}{ν:Nat→Nat}{m h:Nat}{ρ:Operand→Value}{o:Oper}{s s':LS}{r:Option Value}(he:evVal0 P ν true m h ρ o s=some (r,s')):s'.heap=s.heap∧s'.k=s.k:=by
  unfold evVal0 at he
  split at he
  · split at he
    · rename_i v s1 h1
      simp only [Option.some.injEq,Prod.mk.injEq]at he
      obtain⟨rfl,rfl⟩:=he;exact absRun_ro P h ν _ s _ _ h1
    · rename_i s1 h1
      simp only [Option.some.injEq,Prod.mk.injEq]at he
      obtain⟨rfl,rfl⟩:=he;exact absRun_ro P h ν _ s _ _ h1
    · simp at he
  · simp at he
  · simp at he
  · split at he
    · simp only [Option.some.injEq,Prod.mk.injEq]at he
      obtain⟨rfl,rfl⟩:=he;exact⟨rfl,rfl⟩
    · simp at he
theorem evVal_ro {fx:Option Value}{P:Program}{ν:Nat→Nat}{m h:Nat}{ρ:Operand→Value}{o:Oper}{s s':LS}{r:Option Value}(he:evVal P ν true m h fx ρ o s=some (r,s')):s'.heap=s.heap∧s'.k=s.k:=by
  unfold evVal at he
  split at he
  · rename_i v s1 h1
    obtain⟨u,rfl,e1,e2,_⟩:=fixV_some he;rw [e1,e2];exact evVal0_ro h1
  · exact evVal0_ro he
theorem evRun_shape {P:Program}{n:Nat}{q:Bool}{ν:Nat→Nat}{p:Nat×Bool}{C:Conds}{hn:Hint}{o:Oper}{E E':Env}{s s':LS}(he:evRun P n q ν (p::C) hn o E s=some (E',s')):s'.heap=s.heap∧s'.k=s.k∧∃r,evDst n E (p::C) o.dst r=some E':=by
  unfold evRun at he
  split at he
  · split at he
    · rename_i v hv
      split at he
      · rename_i E1 hd
        simp only [Option.some.injEq,Prod.mk.injEq]at he
        obtain⟨rfl,rfl⟩:=he;exact⟨rfl,rfl,_,hd⟩
      · simp at he
    · simp at he
  · obtain⟨v,p,hv,hd,rfl⟩:=evRunDec_spec he;exact⟨rfl,rfl,_,hd⟩
  · obtain⟨v,p,hv,hd,rfl⟩:=evRunDec_spec he;exact⟨rfl,rfl,_,hd⟩
  · split at he
    · split at he
      · rename_i r s1 hv
        split at he
        · rename_i E1 hd
          simp only [Option.some.injEq,Prod.mk.injEq]at he
          obtain⟨rfl,rfl⟩:=he;rw [show(q|| !isNil (p::C))=true by simp [isNil]]at hv;obtain⟨h1,h2⟩:=evVal_ro hv;obtain⟨e1,e2,_⟩:=wrap_heap (E:=E) (C:=p::C) (l:=s.ob) (s:=s1);exact⟨e1.trans h1,e2.trans h2,_,hd⟩
        · simp at he
      · simp at he
    · simp at he
theorem guardSlot_some {ops:Array Oper}{o:Oper}{d:Nat}{want:Bool}(h:guardSlot ops o=some (d,want)):∃j,o.guard=some (j,want)∧(ops[j]?).bind (·.dst)=some d:=by
  unfold guardSlot at h
  split at h
  · rename_i j wt hg
    split at h
    · rename_i d' hd
      simp only [Option.some.injEq,Prod.mk.injEq]at h
      obtain⟨rfl,rfl⟩:=h;exact⟨j,hg,hd⟩
    · simp at h
  · simp at h
theorem wanted_iff {ops:Array Oper}{o:Oper}{d:Nat}{want:Bool}(h:guardSlot ops o=some (d,want))(a:Act)(hd:d<a.tmps.size):Region.wanted o (yielded ops a.tmps)=true↔a.tmps.getD d undef=.bool want:=by
  obtain⟨j,hg,hj⟩:=guardSlot_some h
  simp only [Region.wanted,hg,yielded,hj,Option.bind_some]
  have e:a.tmps[d]? =some (a.tmps.getD d undef):=by
    simp [hd]
  rw [e]
  constructor
  · intro hw
    split at hw
    · rename_i b hb
      simp at hw
      have:=Option.some.inj hb;rw [this,hw]
    · simp at hw
  · intro hw
    rw [hw]
    simp
theorem evOp_sound {P:Program}{n:Nat}{q:Bool}{ops:Array Oper}{ν:Nat→Nat}{hn:Hint}{o:Oper}{E E':Env}{s s':LS}{a:Act}{w:World}(he:evOp P n q ops ν hn o E s=some (E',s'))(hE:Agree E a)(hb:∀d want,guardSlot ops o=some (d,want)→d<n)(hsz:n≤a.tmps.size)(F:Fine ν s w)(hob:AllP s'.ob):
    (Region.wanted o (yielded ops a.tmps)=true∧∃r w',Ran P ν o a s w r s' w'∧Agree E' (a.put o.dst (r.getD undef)))∨
    (Region.wanted o (yielded ops a.tmps)=false∧Fine ν s' w∧Grew w s s'∧Agree E' (a.put o.dst undef)):=by
  unfold evOp at he
  split at he
  · split at he
    · rename_i hg
      refine .inl ⟨by simp [Region.wanted,hg],?_⟩;exact evRun_sound he hE hsz (fun p hp=>by cases hp) F hob
    · simp at he
  · split at he
    · rename_i d want hg
      split at he
      · rename_i v hl
        split at he
        · rename_i E1 s1 hr
          simp only [Option.some.injEq,Prod.mk.injEq]at he
          obtain⟨rfl,rfl⟩:=he;have hv:v=.bool want:=hob.1;have hslot:=hE.at (look_mem hl) (fun p hp=>by cases hp);refine .inl ⟨(wanted_iff hg a (Nat.lt_of_lt_of_le (hb _ _ hg) hsz)).2 (hslot.trans hv),?_⟩;obtain⟨r,w',⟨h1,h2,h3,h4⟩,h5⟩:=evRun_sound hr hE hsz (fun p hp=>by cases hp) F hob.2;exact⟨r,w',⟨h1,h2.ob _,h3,h4.trans (grew_ob (w:=w') [_]) h3.size⟩,h5⟩
        · simp at he
      · simp at he
    · simp at he
  · split at he
    · rename_i d want hg
      split at he
      · rename_i v hl
        split at he
        · rename_i E1 hd
          simp only [Option.some.injEq,Prod.mk.injEq]at he
          obtain⟨rfl,rfl⟩:=he;have hv:v=.bool (!want):=hob.1;have hslot:=hE.at (look_mem hl) (fun p hp=>by cases hp);refine .inr ⟨?_,F.ob _,grew_ob [_],agree_dst hd hE hsz fun u hu=>.inl ⟨fun p hp=>(by cases hp),Option.some.inj hu⟩⟩;rw [Bool.eq_false_iff];intro hw;have:=(wanted_iff hg a (Nat.lt_of_lt_of_le (hb _ _ hg) hsz)).1 hw;rw [this]at hslot;rw [hv]at hslot;have:=Value.bool.inj hslot
          cases want<;>simp at this
        · simp at he
      · simp at he
    · simp at he
  · split at he
    · rename_i d want hg
      split at he
      · rename_i v hl
        split at he
        · rename_i E1 hd
          simp only [Option.some.injEq,Prod.mk.injEq]at he
          obtain⟨rfl,rfl⟩:=he;have hv:v=undef:=hob.1;have hslot:=hE.at (look_mem hl) (fun p hp=>by cases hp);refine .inr ⟨?_,F.ob _,grew_ob [_],agree_dst hd hE hsz fun u hu=>.inl ⟨fun p hp=>(by cases hp),Option.some.inj hu⟩⟩;rw [Bool.eq_false_iff];intro hw;have:=(wanted_iff hg a (Nat.lt_of_lt_of_le (hb _ _ hg) hsz)).1 hw;rw [this]at hslot;rw [hv]at hslot
          cases hslot
        · simp at he
      · simp at he
    · simp at he
  · split at he
    · rename_i d want hg
      split at he
      · rename_i cs u hl
        have key:=wanted_iff hg a (Nat.lt_of_lt_of_le (hb _ _ hg) hsz);have hent:=hE _ (look_mem hl)
        by_cases hw:Region.wanted o (yielded ops a.tmps)=true
        · refine .inl ⟨hw,evRun_sound he hE hsz (fun p hp=>?_) F hob⟩
          have hd:=key.1 hw
          have hcs:Holds a cs:=by
            rcases hent with⟨h,_⟩|⟨_,h⟩
            · exact h
            · have h:a.tmps.getD d undef=undef:=h
              rw [hd]at h
              cases h
          rcases List.mem_cons.1 hp with rfl|hp
          · exact hd
          · exact hcs p hp
        · refine .inr ⟨by simpa using hw,?_⟩
          obtain⟨h1,h2,r,h3⟩:=evRun_shape he;obtain⟨l,hl'⟩:=evRun_obs he;refine⟨⟨by rw [h1];exact F.holds,by rw [h1];exact F.apart,by rw [h2];exact F.name⟩,⟨?_,?_,⟨l,hl'⟩⟩,?_⟩
          · intro i e he;exact⟨e,by rw [h1];exact he,rfl,rfl⟩
          · intro e he;rw [h1]at he;exact .inl ⟨e,he,rfl,rfl⟩
          · refine agree_dst h3 hE hsz fun u _=>.inr ⟨fun hC=>hw (key.2 ?_),rfl⟩
            exact hC (d,want) List.mem_cons_self
      · simp at he
    · simp at he
  · simp at he
theorem evOp_obs {P:Program}{n:Nat}{q:Bool}{ops:Array Oper}{ν:Nat→Nat}{hn:Hint}{o:Oper}{E E':Env}{s s':LS}(he:evOp P n q ops ν hn o E s=some (E',s')):∃l,s'.ob=l++s.ob:=by
  unfold evOp at he
  split at he
  · split at he
    · exact evRun_obs he
    · simp at he
  · split at he
    · split at he
      · split at he
        · rename_i E1 s1 hr
          simp only [Option.some.injEq,Prod.mk.injEq]at he
          obtain⟨rfl,rfl⟩:=he;obtain⟨l,hl⟩:=evRun_obs hr;exact⟨_::l,by rw [hl];rfl⟩
        · simp at he
      · simp at he
    · simp at he
  · split at he
    · split at he
      · split at he
        · simp only [Option.some.injEq,Prod.mk.injEq]at he
          obtain⟨rfl,rfl⟩:=he;exact⟨[_],rfl⟩
        · simp at he
      · simp at he
    · simp at he
  · split at he
    · split at he
      · split at he
        · simp only [Option.some.injEq,Prod.mk.injEq]at he
          obtain⟨rfl,rfl⟩:=he;exact⟨[_],rfl⟩
        · simp at he
      · simp at he
    · simp at he
  · split at he
    · split at he
      · exact evRun_obs he
      · simp at he
    · simp at he
  · simp at he
theorem evOps_obs {P:Program}{n:Nat}{q:Bool}{ops:Array Oper}{ν:Nat→Nat} :∀(hs:List Hint) (l:List Oper) (E E':Env) (s s':LS),evOps P n q ops ν hs l E s=some (E',s')→∃l,s'.ob=l++s.ob
  |[],[],E,E',s,s',he=>by
    simp only [evOps,Option.some.injEq,Prod.mk.injEq]at he
    exact⟨[],by rw [←he.2];rfl⟩
  |hn::hs,o::l,E,E',s,s',he=>by
    simp only [evOps]at he
    split at he
    · rename_i E1 s1 h1
      obtain⟨l1,e1⟩:=evOp_obs h1;obtain⟨l2,e2⟩:=evOps_obs hs l _ _ _ _ he;exact⟨l2++l1,by rw [e2,e1,List.append_assoc]⟩
    · simp at he
  |[],_::_,_,_,_,_,he=>by simp [evOps]at he
  |_::_,[],_,_,_,_,he=>by simp [evOps]at he
def guardsOk (n:Nat)(ops:Array Oper):List Oper→Bool
  |[]=>true
  |o::l=>(match guardSlot ops o with
    |some (d,_)=>Nat.blt d n
    |none=>true)&&guardsOk n ops l
theorem wpList_evOps {P:Program}{n:Nat}{q:Bool}{ops:Array Oper}{ν:Nat→Nat}{Q:Exit→Act→World→Prop}(rest:List Oper):∀(hs:List Hint) (l:List Oper) (E E':Env) (s s':LS) (a:Act) (w:World),evOps P n q ops ν hs l E s=some (E',s')→guardsOk n ops l=true→Agree E a→n≤a.tmps.size→Fine ν s w→AllP s'.ob→
    (∀a' w',Agree E' a'→a'.tmps.size=a.tmps.size→a'.defers=a.defers→Fine ν s' w'→Own s.heap w w'→Grew w s s'→wpList P ops Q rest a' w')→wpList P ops Q (l++rest) a w
  |[],[],E,E',s,s',a,w,he,_,hE,hsz,F,hob,H=>by
    simp only [evOps,Option.some.injEq,Prod.mk.injEq]at he
    obtain⟨rfl,rfl⟩:=he;exact H a w hE rfl rfl F (.refl _ _) (.refl _ _)
  |hn::hs,o::l,E,E',s,s',a,w,he,hg,hE,hsz,F,hob,H=>by
    simp only [evOps]at he
    split at he
    · rename_i E1 s1 h1
      simp only [guardsOk,Bool.and_eq_true]at hg
      have hg1:∀d want,guardSlot ops o=some (d,want)→d<n:=by
        intro d want hd;have:=hg.1;rw [hd]at this
        simpa using this
      have hob1:AllP s1.ob:=by
        obtain⟨l',e⟩:=evOps_obs _ _ _ _ _ _ he;rw [e]at hob;exact(allP_append hob).2
      show wpList P ops Q (o::(l++rest)) a w
      unfold wpList
      rcases evOp_sound h1 hE hg1 hsz F hob1 with⟨hw,r,w1,⟨hr,F1,O1,G1⟩,A1⟩|⟨hw,F1,G1,A1⟩
      · rw [if_pos hw]
        refine .inl ?_
        unfold Oper.wp
        rw [hr]
        have next:wpList P ops Q (l++rest) (a.put o.dst (r.getD undef)) w1:=by
          refine wpList_evOps rest hs l E1 E' s1 s' _ w1 he hg.2 A1 (by rw [put_size];exact hsz) F1 hob fun a' w' h2 h3 h4 h5 h6 h7=>?_;exact H a' w' h2 (h3.trans (put_size _ _ _)) (h4.trans (put_defers _ _ _)) h5 (O1.trans h6 G1.own) (G1.trans h7 O1.size)
        cases r with
        |none=>exact next
        |some v=>exact next
      · rw [if_neg (by rw [hw];simp)]
        refine wpList_evOps rest hs l E1 E' s1 s' _ w he hg.2 A1 (by rw [put_size];exact hsz) F1 hob fun a' w' h2 h3 h4 h5 h6 h7=>?_;refine H a' w' h2 (h3.trans (put_size _ _ _)) (h4.trans (put_defers _ _ _)) h5 ((Own.refl _ _).trans h6 G1.own) (G1.trans h7 (Nat.le_refl _))
    · simp at he
  |[],_::_,_,_,_,_,_,_,he,_,_,_,_,_,_=>by simp [evOps]at he
  |_::_,[],_,_,_,_,_,_,he,_,_,_,_,_,_=>by simp [evOps]at he
theorem absRun_any {α:Type}(P:Program)(h:Nat)(ν ν':Nat→Nat)(m:Sem α):∀(s:LS),absRun P h ν true m s=absRun P h ν' true m s:=by
  induction m with
  |pure a=>intro s;rfl
  |load md a k ih=>
    intro s
    simp only [absRun]
    split
    · split
      · exact ih _ _
      · rfl
    · split
      · exact ih _ _
      · rfl
    · split
      · exact ih _ _
      · rfl
    · rfl
  |store md a v k ih=>intro s;simp [absRun]
  |new o k ih=>intro s;simp [absRun]
  |shape r k ih=>
    intro s
    simp only [absRun]
    split
    · exact ih _ _
    · rfl
  |freeze a n k ih=>intro s;rfl
  |frozen a k ih=>
    intro s
    simp only [absRun]
    split
    · exact ih _ _
    · rfl
  |getObj r k ih=>intro s;rfl
  |setObj r o k ih=>intro s;rfl
  |choose q k ih=>intro s;rfl
  |sys c k ih=>intro s;rfl
  |program k ih=>intro s;exact ih P s
  |mark mm k ih=>intro s;exact ih s
  |halt hh=>intro s;rfl
theorem evVal_any {fx:Option Value}{P:Program}{ν ν':Nat→Nat}{m h:Nat}{ρ:Operand→Value}{o:Oper}{s:LS} :evVal P ν true m h fx ρ o s=evVal P ν' true m h fx ρ o s:=by
  have:evVal0 P ν true m h ρ o s=evVal0 P ν' true m h ρ o s:=by
    unfold evVal0
    split
    · rw [absRun_any P h ν ν']
    · rfl
    · rfl
    · rfl
  unfold evVal
  rw [this]
theorem evRun_still {P:Program}{n:Nat}{ν:Nat→Nat}{C:Conds}{hn:Hint}{o:Oper}{E E':Env}{s s':LS}(he:evRun P n true ν C hn o E s=some (E',s')):s'.heap=s.heap∧s'.k=s.k:=by
  unfold evRun at he
  split at he
  · split at he
    · split at he
      · simp only [Option.some.injEq,Prod.mk.injEq]at he
        obtain⟨rfl,rfl⟩:=he;exact⟨rfl,rfl⟩
      · simp at he
    · simp at he
  · obtain⟨v,p,hv,hd,rfl⟩:=evRunDec_spec he;exact⟨rfl,rfl⟩
  · obtain⟨v,p,hv,hd,rfl⟩:=evRunDec_spec he;exact⟨rfl,rfl⟩
  · split at he
    · split at he
      · rename_i r s1 hv
        split at he
        · simp only [Option.some.injEq,Prod.mk.injEq]at he
          obtain⟨rfl,rfl⟩:=he
          simp only [Bool.true_or]at hv
          obtain⟨h1,h2⟩:=evVal_ro hv;obtain⟨e1,e2,_⟩:=wrap_heap (E:=E) (C:=C) (l:=s.ob) (s:=s1);exact⟨e1.trans h1,e2.trans h2⟩
        · simp at he
      · simp at he
    · simp at he
theorem evOp_still {P:Program}{n:Nat}{ops:Array Oper}{ν:Nat→Nat}{hn:Hint}{o:Oper}{E E':Env}{s s':LS}(he:evOp P n true ops ν hn o E s=some (E',s')):s'.heap=s.heap∧s'.k=s.k:=by
  unfold evOp at he
  split at he
  · split at he
    · exact evRun_still he
    · simp at he
  · split at he
    · split at he
      · split at he
        · rename_i E1 s1 hr
          simp only [Option.some.injEq,Prod.mk.injEq]at he
          obtain⟨rfl,rfl⟩:=he;have:=evRun_still hr;exact this
        · simp at he
      · simp at he
    · simp at he
  · split at he
    · split at he
      · split at he
        · simp only [Option.some.injEq,Prod.mk.injEq]at he
          obtain⟨rfl,rfl⟩:=he;exact⟨rfl,rfl⟩
        · simp at he
      · simp at he
    · simp at he
  · split at he
    · split at he
      · split at he
        · simp only [Option.some.injEq,Prod.mk.injEq]at he
          obtain⟨rfl,rfl⟩:=he;exact⟨rfl,rfl⟩
        · simp at he
      · simp at he
    · simp at he
  · split at he
    · split at he
      · exact evRun_still he
      · simp at he
    · simp at he
  · simp at he
theorem evRun_q {P:Program}{n:Nat}{ν:Nat→Nat}{C:Conds}{hn:Hint}{o:Oper}{E E':Env}{s s':LS}(he:evRun P n true ν C hn o E s=some (E',s')):
    ∃r:Option Value,∀a:Act,Agree E a→n≤a.tmps.size→Holds a C→AllP s'.ob→Agree E' (a.put o.dst (r.getD undef))∧
      ∀w:World,Fine (fun j=>w.heap.size+j) s w→(execOp a.eval o).run P w=.ok (match r with|some v=>.value v|none=>.skip) w:=by
  unfold evRun at he
  split at he
  · split at he
    · rename_i v hv
      split at he
      · rename_i E1 hd
        simp only [Option.some.injEq,Prod.mk.injEq]at he
        obtain⟨rfl,rfl⟩:=he;refine⟨some v,fun a hE hsz hC _=>⟨agree_dst hd hE hsz fun u hu=>.inl ⟨hC,by obtain rfl:=Option.some.inj hu;rfl⟩,fun w _=>evPick_sound hv hE hC w⟩⟩
      · simp at he
    · simp at he
  · obtain⟨v,p,hv,hd,rfl⟩:=evRunDec_spec he
    exact⟨some v,fun a hE hsz hC hob=>⟨agree_dst hd hE hsz fun u hu=>.inl ⟨hC,by obtain rfl:=Option.some.inj hu;rfl⟩,fun w _=>(evDec_sound hv hE hob.1 w).2⟩⟩
  · obtain⟨v,p,hv,hd,rfl⟩:=evRunDec_spec he
    exact⟨some v,fun a hE hsz hC hob=>⟨agree_dst hd hE hsz fun u hu=>.inl ⟨hC,by obtain rfl:=Option.some.inj hu;rfl⟩,fun w _=>(evDec_sound hv hE hob.1 w).2⟩⟩
  · split at he
    · rename_i hok
      simp only [Bool.and_eq_true]at hok
      split at he
      · rename_i r s1 hv
        split at he
        · rename_i E1 hd
          simp only [Option.some.injEq,Prod.mk.injEq]at he
          obtain⟨rfl,rfl⟩:=he
          simp only [Bool.true_or]at hv
          refine⟨r,fun a hE hsz hC hob=>⟨agree_dst hd hE hsz fun u hu=>.inl ⟨hC,by rw [hu];rfl⟩,fun w F=>?_⟩⟩;have hcond:=condP_of hE hC C hok.2 (fun p hp=>hp);have hob1:AllP s1.ob:=wrap_own hob hcond;have heq:execOp a.eval o=execOp (rho E) o:=execOp_congr o hok.1.1 fun x hx=>agree_eval hE hC (okAll_mem hok.1.2 x hx)
          rw [evVal_any (ν':=fun j=>w.heap.size+j)]at hv;obtain⟨w',h1,h2,h3,h4,h5⟩:=evVal_sound hv (F.ob _) hob1;obtain⟨rfl,_⟩:=h5 rfl;rw [heq];exact h1
        · simp at he
      · simp at he
    · simp at he
theorem evOp_q {P:Program}{n:Nat}{ops:Array Oper}{ν:Nat→Nat}{hn:Hint}{o:Oper}{E E':Env}{s s':LS}{a:Act}(he:evOp P n true ops ν hn o E s=some (E',s'))(hE:Agree E a)(hb:∀d want,guardSlot ops o=some (d,want)→d<n)(hsz:n≤a.tmps.size)(hob:AllP s'.ob):
    (Region.wanted o (yielded ops a.tmps)=true∧∃r:Option Value,Agree E' (a.put o.dst (r.getD undef))∧∀w:World,Fine (fun j=>w.heap.size+j) s w→(execOp a.eval o).run P w=.ok (match r with|some v=>.value v|none=>.skip) w)∨
    (Region.wanted o (yielded ops a.tmps)=false∧Agree E' (a.put o.dst undef)):=by
  unfold evOp at he
  split at he
  · split at he
    · rename_i hg
      obtain⟨r,hr⟩:=evRun_q he;obtain⟨h1,h2⟩:=hr a hE hsz (fun p hp=>by cases hp) hob;exact .inl ⟨by simp [Region.wanted,hg],r,h1,h2⟩
    · simp at he
  · split at he
    · rename_i d want hg
      split at he
      · rename_i v hl
        split at he
        · rename_i E1 s1 hr
          simp only [Option.some.injEq,Prod.mk.injEq]at he
          obtain⟨rfl,rfl⟩:=he;have hv:v=.bool want:=hob.1;have hslot:=hE.at (look_mem hl) (fun p hp=>by cases hp);obtain⟨r,hr⟩:=evRun_q hr;obtain⟨h1,h2⟩:=hr a hE hsz (fun p hp=>by cases hp) hob.2;exact .inl ⟨(wanted_iff hg a (Nat.lt_of_lt_of_le (hb _ _ hg) hsz)).2 (hslot.trans hv),r,h1,h2⟩
        · simp at he
      · simp at he
    · simp at he
  · split at he
    · rename_i d want hg
      split at he
      · rename_i v hl
        split at he
        · rename_i E1 hd
          simp only [Option.some.injEq,Prod.mk.injEq]at he
          obtain⟨rfl,rfl⟩:=he;have hv:v=.bool (!want):=hob.1;have hslot:=hE.at (look_mem hl) (fun p hp=>by cases hp);refine .inr ⟨?_,agree_dst hd hE hsz fun u hu=>.inl ⟨fun p hp=>(by cases hp),Option.some.inj hu⟩⟩;rw [Bool.eq_false_iff];intro hw;have:=(wanted_iff hg a (Nat.lt_of_lt_of_le (hb _ _ hg) hsz)).1 hw;rw [this]at hslot;rw [hv]at hslot;have:=Value.bool.inj hslot
          cases want<;>simp at this
        · simp at he
      · simp at he
    · simp at he
  · split at he
    · rename_i d want hg
      split at he
      · rename_i v hl
        split at he
        · rename_i E1 hd
          simp only [Option.some.injEq,Prod.mk.injEq]at he
          obtain⟨rfl,rfl⟩:=he;have hv:v=undef:=hob.1;have hslot:=hE.at (look_mem hl) (fun p hp=>by cases hp);refine .inr ⟨?_,agree_dst hd hE hsz fun u hu=>.inl ⟨fun p hp=>(by cases hp),Option.some.inj hu⟩⟩;rw [Bool.eq_false_iff];intro hw;have:=(wanted_iff hg a (Nat.lt_of_lt_of_le (hb _ _ hg) hsz)).1 hw;rw [this]at hslot;rw [hv]at hslot
          cases hslot
        · simp at he
      · simp at he
    · simp at he
  · split at he
    · rename_i d want hg
      split at he
      · rename_i cs u hl
        have key:=wanted_iff hg a (Nat.lt_of_lt_of_le (hb _ _ hg) hsz);have hent:=hE _ (look_mem hl)
        by_cases hw:Region.wanted o (yielded ops a.tmps)=true
        · have hd:=key.1 hw
          have hcs:Holds a cs:=by
            rcases hent with⟨h,_⟩|⟨_,h⟩
            · exact h
            · have h:a.tmps.getD d undef=undef:=h
              rw [hd]at h
              cases h
          obtain⟨r,hr⟩:=evRun_q he
          obtain⟨h1,h2⟩:=hr a hE hsz (fun p hp=>by
            rcases List.mem_cons.1 hp with rfl|hp
            · exact hd
            · exact hcs p hp) hob
          exact .inl ⟨hw,r,h1,h2⟩
        · refine .inr ⟨by simpa using hw,?_⟩
          obtain⟨h1,h2,r,h3⟩:=evRun_shape he;refine agree_dst h3 hE hsz fun u _=>.inr ⟨fun hC=>hw (key.2 ?_),rfl⟩
          exact hC (d,want) List.mem_cons_self
      · simp at he
    · simp at he
  · simp at he
theorem wpQuiet_evOps {P:Program}{n:Nat}{ops:Array Oper}{ν:Nat→Nat}{C:World→Prop}{Q:Act→Prop}(rest:List Oper):∀(hs:List Hint) (l:List Oper) (E E':Env) (s s':LS) (a:Act),evOps P n true ops ν hs l E s=some (E',s')→guardsOk n ops l=true→Agree E a→n≤a.tmps.size→(∀w,C w→Fine (fun j=>w.heap.size+j) s w)→AllP s'.ob→
    (∀a',Agree E' a'→a'.tmps.size=a.tmps.size→a'.defers=a.defers→s'.heap=s.heap→wpQuiet P ops C Q rest a')→wpQuiet P ops C Q (l++rest) a
  |[],[],E,E',s,s',a,he,_,hE,hsz,F,hob,H=>by
    simp only [evOps,Option.some.injEq,Prod.mk.injEq]at he
    obtain⟨rfl,rfl⟩:=he;exact H a hE rfl rfl rfl
  |hn::hs,o::l,E,E',s,s',a,he,hg,hE,hsz,F,hob,H=>by
    simp only [evOps]at he
    split at he
    · rename_i E1 s1 h1
      simp only [guardsOk,Bool.and_eq_true]at hg
      have hg1:∀d want,guardSlot ops o=some (d,want)→d<n:=by
        intro d want hd;have:=hg.1;rw [hd]at this
        simpa using this
      have hob1:AllP s1.ob:=by
        obtain⟨l',e⟩:=evOps_obs _ _ _ _ _ _ he;rw [e]at hob;exact(allP_append hob).2
      obtain⟨k1,k2⟩:=evOp_still h1
      have F1:∀w,C w→Fine (fun j=>w.heap.size+j) s1 w:=fun w hw=>by
        have:=F w hw;exact⟨by rw [k1];exact this.holds,by rw [k1];exact this.apart,by rw [k2];exact this.name⟩
      have next:∀v,Agree E1 (a.put o.dst v)→wpQuiet P ops C Q (l++rest) (a.put o.dst v):=fun v A1=>
        wpQuiet_evOps rest hs l E1 E' s1 s' _ he hg.2 A1 (by rw [put_size];exact hsz) F1 hob fun a' h2 h3 h4 h5=>
          H a' h2 (h3.trans (put_size _ _ _)) (h4.trans (put_defers _ _ _)) (h5.trans k1)
      show wpQuiet P ops C Q (o::(l++rest)) a
      unfold wpQuiet
      rcases evOp_q h1 hE hg1 hsz hob1 with⟨hw,r,A1,hr⟩|⟨hw,A1⟩
      · rw [if_pos hw]
        refine⟨r.getD undef,fun w hCw=>?_,next _ A1⟩
        unfold Oper.quietAt
        rw [hr w (F w hCw)]
        cases r with
        |none=>exact⟨rfl,rfl⟩
        |some v=>exact⟨rfl,rfl⟩
      · rw [if_neg (by rw [hw];simp)]
        exact next _ A1
    · simp at he
  |[],_::_,_,_,_,_,_,he,_,_,_,_,_,_=>by simp [evOps]at he
  |_::_,[],_,_,_,_,_,he,_,_,_,_,_,_=>by simp [evOps]at he
structure AM where
  cap:Nat
  com:Nat→Bool
  mem:Nat→UInt8
  armed:Bool
  refuse:Nat
def countTo (p:Nat→Bool):Nat→Nat
  |0=>0
  |n+1=>countTo p n+(if p n then 1 else 0)
structure Words (ws:Nat→Nat)(nw n:Nat)(p:Nat→Bool):Prop where
  many:nw=(n+63)/64
  bit:∀j,j<nw→∀i,i<64→(ws j).testBit i=(decide (64*j+i<n)&&p (64*j+i))
  small:∀j,j<nw→ws j<2^64
def WordsAt (w:World)(bw off nw:Nat)(ws:Nat→Nat):Prop:=
  ∃c T fz,w.heap[bw]? =some (.cells c T fz)∧∀j,j<nw→c[off+j]? =some (.int .u64 (ws j:Int))
structure Lie where
  bp:Nat
  bw:Nat
  ow:Nat
  nw:Nat
  cw:Nat
  ws:Nat→Nat
  pb:Nat→Nat
  TA:TypeId
  TP:TypeId
structure ArS where
  b:Nat
  F:Nat→Prop
  m:AM
def pageOf (m:AM)(pb:Nat→Nat)(i:Nat):Value:=.pointer (if m.com i then some ⟨pb i,0,none⟩else none)
structure ArAt (w:World)(r:ArS)(d:Lie):Prop where
  head:w.heap[r.b]? =some (.cells #[.slice (some ⟨d.bp,0,none⟩) r.m.cap r.m.cap,.int .i64 (r.m.cap:Int),.slice (some ⟨d.bw,d.ow,none⟩) d.nw d.cw,.int .i64 (countTo r.m.com r.m.cap:Int),.bool r.m.armed,.int .i64 (r.m.refuse:Int)] d.TA (0,0))
  pages:∃c,w.heap[d.bp]? =some (.cells c d.TP (0,0))∧c.size=r.m.cap∧∀i,i<r.m.cap→c[i]? =some (pageOf r.m d.pb i)
  words:WordsAt w d.bw d.ow d.nw d.ws
  set:Words d.ws d.nw r.m.cap r.m.com
  page:∀i,i<r.m.cap→r.m.com i=true→∃c T,w.heap[d.pb i]? =some (.cells c T (0,0))∧c.size=4096∧∀o,o<4096→c[o]? =some (.int .u8 ((r.m.mem (4096*i+o)).toNat:Int))
  ne1:r.b≠d.bp
  ne2:r.b≠d.bw
  ne3:d.bp≠d.bw
  ne4:∀i,i<r.m.cap→r.m.com i=true→d.pb i≠r.b∧d.pb i≠d.bp∧d.pb i≠d.bw
  inj:∀i j,i<r.m.cap→r.m.com i=true→j<r.m.cap→r.m.com j=true→d.pb i=d.pb j→i=j
  capLe:r.m.cap≤1048576
  refuseLe:r.m.refuse<2^63
  foot:∀k,r.F k↔(k=r.b∨k=d.bp∨k=d.bw∨∃i,i<r.m.cap∧r.m.com i=true∧k=d.pb i)
def Ar (w:World)(r:ArS):Prop:=∃d,ArAt w r d
theorem lt_of_some {w:World}{b:Nat}{o:Obj}(h:w.heap[b]? =some o):b<w.heap.size:=(Array.getElem?_eq_some_iff.1 h).1
theorem Ar.lt {w:World}{r:ArS}(h:Ar w r){k:Nat}(hk:r.F k):k<w.heap.size:=by
  obtain⟨d,h⟩:=h
  rcases(h.foot k).1 hk with rfl|rfl|rfl|⟨i,h1,h2,rfl⟩
  · exact lt_of_some h.head
  · obtain⟨c,hc,_⟩:=h.pages;exact lt_of_some hc
  · obtain⟨c,T,fz,hc,_⟩:=h.words;exact lt_of_some hc
  · obtain⟨c,T,hc,_⟩:=h.page i h1 h2;exact lt_of_some hc
theorem Ar.congr {w w':World}{r:ArS}(h:Ar w r)(e:∀k,r.F k→w'.heap[k]? =w.heap[k]?):Ar w' r:=by
  obtain⟨d,h⟩:=h;refine⟨d,?_,?_,?_,h.set,?_,h.ne1,h.ne2,h.ne3,h.ne4,h.inj,h.capLe,h.refuseLe,h.foot⟩
  · rw [e _ ((h.foot _).2 (.inl rfl))];exact h.head
  · obtain⟨c,hc,r⟩:=h.pages
    exact⟨c,by rw [e _ ((h.foot _).2 (.inr (.inl rfl)))];exact hc,r⟩
  · obtain⟨c,T,fz,hc,r⟩:=h.words
    exact⟨c,T,fz,by rw [e _ ((h.foot _).2 (.inr (.inr (.inl rfl))))];exact hc,r⟩
  · intro i h1 h2
    obtain⟨c,T,hc,r⟩:=h.page i h1 h2;exact⟨c,T,by rw [e _ ((h.foot _).2 (.inr (.inr (.inr ⟨i,h1,h2,rfl⟩))))];exact hc,r⟩
structure Res where
  F:Nat→Prop
  R:World→Prop
  lt:∀w,R w→∀k,F k→k<w.heap.size
  cg:∀w w',R w→(∀k,F k→w'.heap[k]? =w.heap[k]?)→R w'
def arR (b:Nat)(F:Nat→Prop)(m:AM):Res:=⟨F,fun w=>Ar w ⟨b,F,m⟩,fun _ h _ hk=>Ar.lt h hk,fun _ _ h e=>Ar.congr h e⟩
def inF:List Res→Nat→Prop
  |[],_=>False
  |r::l,k=>r.F k∨inF l k
theorem inF_iff {A:List Res}{k:Nat} :inF A k↔∃r∈A,r.F k:=by
  induction A with
  |nil=>simp [inF]
  |cons r l ih=>simp [inF,ih]
structure AllAr (w:World)(A:List Res):Prop where
  each:∀r∈A,r.R w
  apart:A.Pairwise fun r s=>∀k,r.F k→¬s.F k
theorem AllAr.congr {w w':World}{A:List Res}(h:AllAr w A)(e:∀k,inF A k→w'.heap[k]? =w.heap[k]?):AllAr w' A:=
  ⟨fun r hr=>r.cg _ _ (h.each r hr) fun k hk=>e k (inF_iff.2 ⟨r,hr,hk⟩),h.apart⟩
theorem AllAr.lt {w:World}{A:List Res}(h:AllAr w A){k:Nat}(hk:inF A k):k<w.heap.size:=by
  obtain⟨r,hr,hk⟩:=inF_iff.1 hk;exact r.lt _ (h.each r hr) _ hk
theorem AllAr.nil (w:World):AllAr w []:=⟨(fun _ h=>nomatch h),List.Pairwise.nil⟩
def no:Nat→Prop:=fun _=>False
def orF (D D':Nat→Prop):Nat→Prop:=fun k=>D k∨D' k
def one (s:Nat):Nat→Prop:=fun k=>k=s
structure Fr (w w':World)(D D':Nat→Prop):Prop where
  os:w'.os=w.os
  tape:w'.tape=w.tape
  output:w'.output=w.output
  size:w.heap.size≤w'.heap.size
  block:∀k,k<w.heap.size→¬D k→w'.heap[k]? =w.heap[k]?
  foot:∀k,D' k→D k∨w.heap.size≤k
theorem Fr.refl (w:World)(D:Nat→Prop):Fr w w D D:=⟨rfl,rfl,rfl,Nat.le_refl _,fun _ _ _=>rfl,fun _ h=>.inl h⟩
theorem Fr.to {w w':World}{D D' D2 D2':Nat→Prop}(h:Fr w w' D D')(h1:∀k,D k→D2 k∨w.heap.size≤k)(h2:∀k,D2' k→D2 k∨w.heap.size≤k):Fr w w' D2 D2':=
  ⟨h.os,h.tape,h.output,h.size,fun k hk hn=>h.block k hk fun hd=>by
    rcases h1 k hd with h3|h3
    · exact hn h3
    · omega,h2⟩
theorem Fr.none {w w':World}{D D':Nat→Prop}(h:Fr w w' D D'):Fr w w' D no:=⟨h.os,h.tape,h.output,h.size,h.block,fun _ h=>h.elim⟩
structure Cx where
  w0:World
  D:Nat→Prop
  ds:List Deferred
structure WS (c:Cx)(H:Heap)(A:List Res)(w:World):Prop where
  heap:∀e∈H,e.2.holds w e.1
  apart:H.Pairwise apartP
  mine:∀e∈H,e.2.own=true→c.w0.heap.size≤e.1∨c.D e.1
  free:∀e∈H,¬inF A e.1
  ars:AllAr w A
  fr:Fr c.w0 w c.D (inF A)
structure St (c:Cx)(n:Nat)(E:Env)(H:Heap)(A:List Res)(a:Act)(w:World):Prop where
  defers:a.defers=c.ds
  size:n≤a.tmps.size
  env:Agree E a
  mem:WS c H A w
theorem Own.ws {c:Cx}{H H':Heap}{A:List Res}{w w':World}(h:WS c H A w)(hO:Own H w w')(hh:∀e∈H',e.2.holds w' e.1)(ha:H'.Pairwise apartP)
    (hn:∀e∈H',(∃e'∈H,e'.1=e.1∧e'.2.own=e.2.own)∨(w.heap.size≤e.1∧e.2.own=true)):WS c H' A w':=by
  have hk:∀k,inF A k→w'.heap[k]? =w.heap[k]?:=fun k hk=>hO.block k (h.ars.lt hk) fun e he _ hek=>h.free e he (hek▸hk)
  refine⟨hh,ha,fun e he ho=>?_,fun e he hf=>?_,h.ars.congr hk,?_⟩
  · rcases hn e he with⟨e',he',h1,h2⟩|⟨h1,_⟩
    · rw [←h1];exact h.mine e' he' (h2.trans ho)
    · exact .inl (Nat.le_trans h.fr.size h1)
  · rcases hn e he with⟨e',he',h1,_⟩|⟨h1,_⟩
    · exact h.free e' he' (h1▸hf)
    · have:=h.ars.lt hf;omega
  · refine⟨hO.os.trans h.fr.os,hO.tape.trans h.fr.tape,hO.output.trans h.fr.output,Nat.le_trans h.fr.size hO.size,fun k hk hn=>?_,h.fr.foot⟩
    rw [hO.block k (Nat.lt_of_lt_of_le hk h.fr.size) ?_,h.fr.block k hk hn];intro e he ho hek
    rcases h.mine e he ho with h1|h1
    · omega
    · exact hn (hek▸h1)
theorem WS.fine {c:Cx}{H:Heap}{A:List Res}{w:World}(h:WS c H A w):Fine (fun j=>w.heap.size+j) ⟨H,0,[]⟩ w:=
  ⟨h.heap,h.apart,fun j=>by show w.heap.size+(0+j)=_;omega⟩
def pickE (E:Env):List Nat→Option Env
  |[]=>some []
  |t::l=>match look E t,pickE E l with
    |some ([],v),some l'=>some ((t,[],v)::l')
    |_,_=>none
def pickH (H:Heap):List Nat→Option Heap
  |[]=>some []
  |i::l=>match H[i]?,pickH H l with
    |some e,some l'=>some (e::l')
    |_,_=>none
def incr:Nat→List Nat→Bool
  |_,[]=>true
  |m,i::l=>Nat.ble m i&&incr (i+1) l
theorem pickE_agree {E E':Env}{a:Act}(h:Agree E a):∀ {l:List Nat},pickE E l=some E'→Agree E' a:=by
  intro l
  induction l generalizing E' with
  |nil=>intro he;simp only [pickE,Option.some.injEq]at he;subst he;intro e he;cases he
  |cons t l ih=>
    intro he
    simp only [pickE]at he
    split at he
    · rename_i v l' h1 h2
      obtain rfl:=Option.some.inj he;intro e he
      rcases List.mem_cons.1 he with rfl|he
      · exact h _ (look_mem h1)
      · exact ih h2 e he
    · simp at he
theorem pickH_spec {H H':Heap} :∀ {l:List Nat},pickH H l=some H'→(∀(j:Nat) (e:Nat×HE),H'[j]? =some e→∃i,l[j]? =some i∧H[i]? =some e):=by
  intro l
  induction l generalizing H' with
  |nil=>intro he;simp only [pickH,Option.some.injEq]at he;subst he;intro j e h;simp at h
  |cons i l ih=>
    intro he
    simp only [pickH]at he
    split at he
    · rename_i e0 l' h1 h2
      obtain rfl:=Option.some.inj he;intro j e h
      cases j with
      |zero=>simp at h;subst h;exact⟨i,rfl,h1⟩
      |succ j=>exact ih h2 j e (by simpa using h)
    · simp at he
theorem incr_lt:∀ {l:List Nat} {m:Nat},incr m l=true→(∀x∈l,m≤x)∧∀(i j x y:Nat),i<j→l[i]? =some x→l[j]? =some y→x<y:=by
  intro l
  induction l with
  |nil=>intro m _;exact⟨(fun x h=>nomatch h),fun i j x y _ h=>by simp at h⟩
  |cons z l ih=>
    intro m h
    simp only [incr,Bool.and_eq_true]at h
    have hz:m≤z:=Nat.le_of_ble_eq_true h.1;obtain⟨h1,h2⟩:=ih h.2;refine⟨fun x hx=>?_,fun i j x y hij hx hy=>?_⟩
    · rcases List.mem_cons.1 hx with rfl|hx
      · exact hz
      · have:=h1 x hx;omega
    · cases j with
      |zero=>omega
      |succ j=>
        cases i with
        |zero=>
          simp at hx hy
          subst hx;have:=h1 y (List.mem_of_getElem? hy);omega
        |succ i=>exact h2 i j x y (by omega) (by simpa using hx) (by simpa using hy)
theorem pickH_apart {H H':Heap}{l:List Nat}(h:H.Pairwise apartP)(hp:pickH H l=some H')(hi:incr 0 l=true):H'.Pairwise apartP:=by
  refine pairwise_of_get fun i j x y hij hx hy=>?_;obtain⟨i',h1,h2⟩:=pickH_spec hp i x hx;obtain⟨j',k1,k2⟩:=pickH_spec hp j y hy;exact pairwise_get h (Nat.ne_of_lt ((incr_lt hi).2 i j i' j' hij h1 k1)) h2 k2
theorem pickH_mem {H H':Heap}{l:List Nat}(hp:pickH H l=some H'):∀e∈H',e∈H:=by
  intro e he;obtain⟨j,hj⟩:=List.mem_iff_getElem?.1 he;obtain⟨i,_,h⟩:=pickH_spec hp j e hj;exact List.mem_of_getElem? h
theorem WS.pick {c:Cx}{H H':Heap}{A:List Res}{w:World}{l:List Nat}(h:WS c H A w)(hp:pickH H l=some H')(hi:incr 0 l=true):WS c H' A w:=
  ⟨fun e he=>h.heap e (pickH_mem hp e he),pickH_apart h.apart hp hi,fun e he=>h.mine e (pickH_mem hp e he),fun e he=>h.free e (pickH_mem hp e he),h.ars,h.fr⟩
def evSeg (P:Program)(n:Nat)(q:Bool)(ops:Array Oper)(ν:Nat→Nat)(hs:List Hint)(l:List Oper)(E:Env)(H:Heap)(kE kH:List Nat):Option (Env×Heap×List Prop):=
  match guardsOk n ops l&&incr 0 kH with
  |true=>match evOps P n q ops ν hs l E ⟨H,0,[]⟩with
    |some (E',s')=>match pickE E' kE,pickH s'.heap kH with
      |some E2,some H2=>some (E2,H2,s'.ob)
      |_,_=>none
    |none=>none
  |false=>none
section
variable {P:Program}{c:Cx}{n:Nat}{E:Env}{H:Heap}{A:List Res}{a:Act}{w:World}{Q:Exit→Act→World→Prop}
theorem WS.drew (h:WS c H A w):WS c H A { w with drawn:=w.drawn+1 } :=
  ⟨fun e he=>(h.heap e he).congr rfl,h.apart,h.mine,h.free,h.ars.congr fun _ _=>rfl,⟨h.fr.os,h.fr.tape,h.fr.output,h.fr.size,h.fr.block,h.fr.foot⟩⟩
theorem evSeg_spec {q:Bool}{ops:Array Oper}{ν:Nat→Nat}{hs:List Hint}{l:List Oper}{kE kH:List Nat}{E':Env}{H':Heap}{obs:List Prop}(he:evSeg P n q ops ν hs l E H kE kH=some (E',H',obs)):
    guardsOk n ops l=true∧incr 0 kH=true∧∃E1 s1,evOps P n q ops ν hs l E ⟨H,0,[]⟩=some (E1,s1)∧pickE E1 kE=some E'∧pickH s1.heap kH=some H'∧s1.ob=obs:=by
  unfold evSeg at he
  split at he
  · rename_i hg
    simp only [Bool.and_eq_true]at hg
    split at he
    · rename_i E1 s1 h1
      split at he
      · rename_i E2 H2 h2 h3
        simp only [Option.some.injEq,Prod.mk.injEq]at he
        obtain⟨rfl,rfl,rfl⟩:=he;exact⟨hg.1,hg.2,E1,s1,h1,h2,h3,rfl⟩
      · simp at he
    · simp at he
  · simp at he
theorem quiet_seg {ops:Array Oper}{C:World→Prop}{K:Act→Prop}{l rest:List Oper}(hs:List Hint)(kE kH:List Nat){E':Env}{H':Heap}{obs:List Prop}(he:evSeg P n true ops (fun _=>0) hs l E H kE kH=some (E',H',obs))(hob:AllP obs)
    {ds:List Deferred} (hE:Agree E a) (hsz:n≤a.tmps.size) (hd:a.defers=ds) (hC:∀w,C w→WS c H A w)
    (h:∀a',Agree E' a'→n≤a'.tmps.size→a'.defers=ds→wpQuiet P ops C K rest a'):wpQuiet P ops C K (l++rest) a:=by
  obtain⟨h1,h2,E1,s1,h3,h4,h5,rfl⟩:=evSeg_spec he;refine wpQuiet_evOps rest hs l _ _ _ _ a h3 h1 hE hsz (fun w hw=>(hC w hw).fine) hob fun a' g1 g2 g3 _=>?_;exact h a' (pickE_agree g1 h4) (by rw [g2];exact hsz) (g3.trans hd)
theorem evOps_heap {ops:Array Oper}{ν:Nat→Nat} :∀(hs:List Hint) (l:List Oper) (E E':Env) (s s':LS),evOps P n true ops ν hs l E s=some (E',s')→s'.heap=s.heap
  |[],[],E,E',s,s',he=>by
    simp only [evOps,Option.some.injEq,Prod.mk.injEq]at he
    rw [←he.2]
  |hn::hs,o::l,E,E',s,s',he=>by
    simp only [evOps]at he
    split at he
    · rename_i E1 s1 h1
      exact(evOps_heap hs l _ _ _ _ he).trans (evOp_still h1).1
    · simp at he
  |[],_::_,_,_,_,_,he=>by simp [evOps]at he
  |_::_,[],_,_,_,_,he=>by simp [evOps]at he
theorem St.quiet {id:Nat}{l:List Oper}(hs:List Hint)(kE kH:List Nat)(hS:St c n E H A a w)(hm:P.follows .mixedOrders=true)(hB:Region.lexB .any l.toArray=true){E':Env}{H':Heap}{obs:List Prop}
    (he:evSeg P n true l.toArray (fun _=>0) hs l E H kE kH=some (E',H',obs)) (hob:AllP obs) (h:∀a' w',St c n E' H' A a' w'→Q .normal a' w'):(Code.region id l.toArray true).wp P Q a w:=by
  refine wp_region_quiet (C:=fun w'=>WS c H A w') hm hB hS.mem.drew ?_
  have:=quiet_seg (K:=fun a'=>∀w',WS c H A w'→Q .normal a' w') (rest:=[]) hs kE kH he hob hS.env hS.size hS.defers (C:=fun w'=>WS c H A w') (fun w h=>h) fun a' h1 h2 h3=>wpQuiet_nil fun w' hw'=>by
    obtain⟨g1,g2,E1,s1,g3,g4,g5,_⟩:=evSeg_spec he;have hh:s1.heap=H:=evOps_heap _ _ _ _ _ _ g3;exact h a' w' ⟨h3,h2,h1,hw'.pick (by rw [←hh];exact g5) g2⟩
  rw [List.append_nil]at this
  simpa using this
def evCall (P:Program)(ops:Array Oper)(g h:Nat)(E:Env)(H:Heap)(o:Oper):Option (FuncId×Array Value×List Prop):=
  match okAll E [] o.op.operands.toList&&opKnown o.op with
  |true=>match absRun P h (fun _=>0) true (execOp (rho E) o) ⟨H,0,[]⟩with
    |some (.enter f args,s)=>match g with
      |0=>match o.guard with
        |none=>some (f,args,s.ob)
        |some _=>none
      |1=>match guardSlot ops o with
        |some (d,want)=>match look E d with
          |some ([],v)=>some (f,args,(v=.bool want)::s.ob)
          |_=>none
        |none=>none
      |_=>none
    |_=>none
  |false=>none
theorem evCall_run {ops:Array Oper}{g h:Nat}{o:Oper}{f:FuncId}{args:Array Value}{obs:List Prop}(he:evCall P ops g h E H o=some (f,args,obs))(hob:AllP obs)(hE:Agree E a)(hb:∀d want,guardSlot ops o=some (d,want)→d<a.tmps.size):
    Region.wanted o (yielded ops a.tmps)=true∧∀w,WS c H A w→(execOp a.eval o).run P w=.ok (.enter f args) w:=by
  unfold evCall at he
  split at he
  · rename_i hok
    simp only [Bool.and_eq_true]at hok
    split at he
    · rename_i f' args' s hr
      have heq:execOp a.eval o=execOp (rho E) o:=execOp_congr o hok.2 fun x hx=>agree_eval (C:=[]) hE (fun p hp=>by cases hp) (okAll_mem hok.1 x hx)
      have fin:AllP s.ob→∀w,WS c H A w→(execOp a.eval o).run P w=.ok (.enter f' args') w:=by
        intro hs w hw;rw [absRun_any P h _ (fun j=>w.heap.size+j)]at hr;obtain⟨w',h1,_,_,_,h5⟩:=absRun_sound P h _ true _ _ w _ _ hr hw.fine hs;obtain⟨rfl,_⟩:=h5 rfl;rw [heq];exact h1
      split at he
      · split at he
        · rename_i hg
          simp only [Option.some.injEq,Prod.mk.injEq]at he
          obtain⟨rfl,rfl,rfl⟩:=he;exact⟨by simp [Region.wanted,hg],fin hob⟩
        · simp at he
      · split at he
        · rename_i d want hg
          split at he
          · rename_i v hl
            simp only [Option.some.injEq,Prod.mk.injEq]at he
            obtain⟨rfl,rfl,rfl⟩:=he;have hslot:=hE.at (look_mem hl) (fun p hp=>by cases hp);exact⟨(wanted_iff hg a (hb _ _ hg)).2 (hslot.trans hob.1),fin hob.2⟩
          · simp at he
        · simp at he
      · simp at he
    · simp at he
  · simp at he
theorem WS.stepX {w':World}{H':Heap}{A':List Res}{D D':Nat→Prop}(h:WS c H A w)(hf:Fr w w' D D')(hD:∀k,D k→inF A k∨∃e∈H,e.2.own=true∧e.1=k)(ha:AllAr w' A')(hA:∀k,inF A' k→inF A k∨w.heap.size≤k)
    (hH:∀(j:Nat) (e':Nat×HE),H'[j]? =some e'→∃e,H[j]? =some e∧e.1=e'.1∧e.2.own=e'.2.own∧(e'.2.holds w' e'.1∨(e'=e∧¬D e.1))):WS c H' A' w':=by
  have key:∀e'∈H',∃e∈H,e.1=e'.1∧e.2.own=e'.2.own:=fun e' he=>by
    obtain⟨j,hj⟩:=List.mem_iff_getElem?.1 he;obtain⟨e,h1,h2,h3,_⟩:=hH j e' hj;exact⟨e,List.mem_of_getElem? h1,h2,h3⟩
  refine⟨fun e' he=>?_,?_,fun e' he ho=>?_,fun e' he hk=>?_,ha,?_⟩
  · obtain⟨j,hj⟩:=List.mem_iff_getElem?.1 he
    obtain⟨e,h1,h2,h3,h4⟩:=hH j e' hj
    rcases h4 with h4|⟨rfl,h4⟩
    · exact h4
    · have hh:=h.heap _ (List.mem_of_getElem? h1)
      exact hh.congr (hf.block _ hh.lt h4)
  · refine pairwise_of_get fun i j x y hij hx hy=>?_
    obtain⟨x',a1,a2,a3,_⟩:=hH i x hx;obtain⟨y',b1,b2,b3,_⟩:=hH j y hy;intro ho;rw [←a2,←b2];exact pairwise_get h.apart (by omega) a1 b1 (by rw [a3,b3];exact ho)
  · obtain⟨e,h1,h2,h3⟩:=key e' he
    rw [←h2];exact h.mine e h1 (h3.trans ho)
  · obtain⟨e,h1,h2,h3⟩:=key e' he
    rcases hA _ hk with hk|hk
    · exact h.free e h1 (h2▸hk)
    · have:=(h.heap e h1).lt;omega
  · refine⟨hf.os.trans h.fr.os,hf.tape.trans h.fr.tape,hf.output.trans h.fr.output,Nat.le_trans h.fr.size hf.size,fun k hk hn=>?_,fun k hk=>?_⟩
    · refine(hf.block k (Nat.lt_of_lt_of_le hk h.fr.size) fun hd=>?_).trans (h.fr.block k hk hn)
      rcases hD k hd with h1|⟨e,he,ho,rfl⟩
      · rcases h.fr.foot k h1 with h2|h2
        · exact hn h2
        · omega
      · rcases h.mine e he ho with h2|h2
        · omega
        · exact hn h2
    · rcases hA k hk with h1|h1
      · exact h.fr.foot k h1
      · exact .inr (Nat.le_trans h.fr.size h1)
theorem inF_set {A:List Res}{i:Nat}{r':Res}{k:Nat}(h:inF (A.set i r') k):r'.F k∨inF A k:=by
  obtain⟨s,hs,hk⟩:=inF_iff.1 h;obtain⟨m,hm⟩:=List.mem_iff_getElem?.1 hs;rw [List.getElem?_set]at hm
  split at hm
  · split at hm
    · obtain rfl:=Option.some.inj hm;exact .inl hk
    · simp at hm
  · exact .inr (inF_iff.2 ⟨s,List.mem_of_getElem? hm,hk⟩)
theorem inF_at {A:List Res}{i:Nat}{r:Res}(hi:A[i]? =some r){k:Nat}(h:r.F k):inF A k:=inF_iff.2 ⟨r,List.mem_of_getElem? hi,h⟩
def Wins (w:World)(F F':Nat→Prop):Prop:=∀k,F' k→F k∨w.heap.size≤k
theorem AllAr.set {w':World}{D D':Nat→Prop}(h:AllAr w A){i:Nat}{r r':Res}(hi:A[i]? =some r)(hr:r'.R w')(hf:Fr w w' D D')(hD:∀k,D k→r.F k∨¬inF A k)(hw:Wins w r.F r'.F):AllAr w' (A.set i r'):=by
  have hap:∀(j:Nat) (s:Res),j≠i→A[j]? =some s→∀k,r.F k→¬s.F k:=by
    intro j s hj hs k hk hk2;obtain⟨hl,rfl⟩:=List.getElem?_eq_some_iff.1 hi;obtain⟨hl2,rfl⟩:=List.getElem?_eq_some_iff.1 hs;have hp:=List.pairwise_iff_getElem.1 h.apart
    rcases Nat.lt_or_ge i j with h1|h1
    · exact hp i j hl hl2 h1 k hk hk2
    · exact hp j i hl2 hl (by omega) k hk2 hk
  have hap2:∀(j:Nat) (s:Res),j≠i→A[j]? =some s→∀k,r'.F k→¬s.F k:=by
    intro j s hj hs k hk hk2
    rcases hw k hk with h1|h1
    · exact hap j s hj hs k h1 hk2
    · have:=s.lt _ (h.each s (List.mem_of_getElem? hs)) _ hk2;omega
  refine⟨fun s hs=>?_,?_⟩
  · obtain⟨m,hm⟩:=List.mem_iff_getElem?.1 hs
    rw [List.getElem?_set]at hm
    split at hm
    · split at hm
      · obtain rfl:=Option.some.inj hm;exact hr
      · simp at hm
    · rename_i hne
      refine s.cg _ _ (h.each s (List.mem_of_getElem? hm)) fun k hk=>hf.block k (s.lt _ (h.each s (List.mem_of_getElem? hm)) _ hk) fun hd=>?_
      rcases hD k hd with h1|h1
      · exact hap m s (fun e=>hne e.symm) hm k h1 hk
      · exact h1 (inF_at hm hk)
  · rw [List.pairwise_iff_getElem]
    intro a b ha hb hab k hk hk2
    have hA:∀(x:Nat) (hx:x<(A.set i r').length),(x=i∧(A.set i r')[x]=r')∨(x≠i∧A[x]? =some (A.set i r')[x]):=by
      intro x hx;have e:=List.getElem?_eq_getElem hx;rw [List.getElem?_set]at e
      split at e
      · rename_i hxi
        split at e
        · exact .inl ⟨hxi.symm,(Option.some.inj e).symm⟩
        · cases e
      · rename_i hxi
        exact .inr ⟨fun h=>hxi h.symm,e⟩
    rcases hA a ha with⟨ea,va⟩|⟨ea,va⟩<;>rcases hA b hb with⟨eb,vb⟩|⟨eb,vb⟩
    · omega
    · rw [va]at hk;exact hap2 b _ eb vb k hk hk2
    · rw [vb]at hk2;exact hap2 a _ ea va k hk2 hk
    · obtain⟨hl,e1⟩:=List.getElem?_eq_some_iff.1 va
      obtain⟨hl2,e2⟩:=List.getElem?_eq_some_iff.1 vb;rw [←e1]at hk;rw [←e2]at hk2;exact List.pairwise_iff_getElem.1 h.apart a b hl hl2 hab k hk hk2
theorem WS.stepA (h:WS c H A w)(i:Nat){r r':Res}{w':World}(hi:A[i]? =some r)(hr:r'.R w')(hf:Fr w w' r.F r'.F):WS c H (A.set i r') w':=by
  refine h.stepX hf (fun k hk=>.inl (inF_at hi hk)) (h.ars.set hi hr hf (fun k hk=>.inl hk) hf.foot) (fun k hk=>?_) (fun j e' he=>⟨e',he,rfl,rfl,.inr ⟨rfl,fun hk=>?_⟩⟩)
  · rcases inF_set hk with h1|h1
    · rcases hf.foot k h1 with h2|h2
      · exact .inl (inF_at hi h2)
      · exact .inr h2
    · exact .inl h1
  · exact h.free e' (List.mem_of_getElem? he) (inF_at hi hk)
theorem heap_set_cases {j:Nat}{s:Nat}{y:HE}{k:Nat}{e':Nat×HE}(he:(H.set j (s,y))[k]? =some e'):(k=j∧e'=(s,y))∨(k≠j∧H[k]? =some e'):=by
  rw [List.getElem?_set]at he
  split at he
  · rename_i hkj
    split at he
    · exact .inl ⟨hkj.symm,(Option.some.inj he).symm⟩
    · cases he
  · rename_i hkj
    exact .inr ⟨fun h=>hkj h.symm,he⟩
theorem WS.stepM (h:WS c H A w)(j:Nat){s:Nat}{x y:HE}{w':World}(hj:H[j]? =some (s,x))(hx:x.own=true)(hy:y.own=true)(hs:y.holds w' s)(hf:Fr w w' (one s) no):WS c (H.set j (s,y)) A w':=by
  refine h.stepX hf (fun k hk=>.inr ⟨_,List.mem_of_getElem? hj,hx,(show k=s from hk).symm⟩) (h.ars.congr fun k hk=>hf.block k (h.ars.lt hk) fun e=>?_) (fun k hk=>.inl hk) (fun k e' he=>?_)
  · exact h.free _ (List.mem_of_getElem? hj) ((show k=s from e)▸hk)
  · rcases heap_set_cases he with⟨rfl,rfl⟩|⟨hk,he⟩
    · exact⟨_,hj,rfl,hx.trans hy.symm,.inl hs⟩
    · exact⟨e',he,rfl,rfl,.inr ⟨rfl,fun e=>pairwise_get h.apart hk he hj (.inr hx) e⟩⟩
theorem WS.stepAM (h:WS c H A w)(i j:Nat){r r':Res}{s:Nat}{x y:HE}{w':World}(hi:A[i]? =some r)(hr:r'.R w')(hj:H[j]? =some (s,x))(hx:x.own=true)(hy:y.own=true)(hs:y.holds w' s)(hw:Wins w r.F r'.F)(hf:Fr w w' (orF r.F (one s)) no):WS c (H.set j (s,y)) (A.set i r') w':=by
  refine h.stepX hf (fun k hk=>?_) (h.ars.set hi hr hf (fun k hk=>?_) hw) (fun k hk=>?_) (fun k e' he=>?_)
  · rcases hk with hk|hk
    · exact .inl (inF_at hi hk)
    · exact .inr ⟨_,List.mem_of_getElem? hj,hx,(show k=s from hk).symm⟩
  · rcases hk with hk|hk
    · exact .inl hk
    · exact .inr ((show k=s from hk)▸h.free _ (List.mem_of_getElem? hj))
  · rcases inF_set hk with h1|h1
    · rcases hw k h1 with h2|h2
      · exact .inl (inF_at hi h2)
      · exact .inr h2
    · exact .inl h1
  · rcases heap_set_cases he with⟨rfl,rfl⟩|⟨hk,he⟩
    · exact⟨_,hj,rfl,hx.trans hy.symm,.inl hs⟩
    · refine⟨e',he,rfl,rfl,.inr ⟨rfl,fun e=>?_⟩⟩
      rcases e with e|e
      · exact h.free e' (List.mem_of_getElem? he) (inF_at hi e)
      · exact pairwise_get h.apart hk he hj (.inr hx) e
theorem WS.newA (h:WS c H A w){r:Res}{w':World}(hr:r.R w')(hf:Fr w w' no r.F):WS c H (A++[r]) w':=by
  have hn:∀k,r.F k→w.heap.size≤k:=fun k hk=>(hf.foot k hk).resolve_left fun h=>h
  have hb:∀k,k<w.heap.size→w'.heap[k]? =w.heap[k]?:=fun k hk=>hf.block k hk fun h=>h
  refine h.stepX hf (fun k hk=>hk.elim) ⟨fun s hs=>?_,?_⟩ (fun k hk=>?_) (fun j e' he=>⟨e',he,rfl,rfl,.inr ⟨rfl,fun h=>h⟩⟩)
  · rcases List.mem_append.1 hs with hs|hs
    · exact s.cg _ _ (h.ars.each s hs) fun k hk=>hb k (s.lt _ (h.ars.each s hs) _ hk)
    · obtain rfl:=List.mem_singleton.1 hs;exact hr
  · rw [List.pairwise_append]
    refine⟨h.ars.apart,List.pairwise_singleton _ _,fun s hs q hq k hk hk2=>?_⟩;obtain rfl:=List.mem_singleton.1 hq;have:=s.lt _ (h.ars.each s hs) _ hk;have:=hn k hk2;omega
  · obtain⟨s,hs,hk2⟩:=inF_iff.1 hk
    rcases List.mem_append.1 hs with hs|hs
    · exact .inl (inF_iff.2 ⟨s,hs,hk2⟩)
    · rw [List.mem_singleton.1 hs]at hk2;exact .inr (hn k hk2)
theorem WS.dropA (h:WS c H A w)(l:List Nat){A':List Res}(hA:∀r∈A',r∈A)(ha:A'.Pairwise fun r s=>∀k,r.F k→¬s.F k):WS c H A' w:=by
  have hi:∀k,inF A' k→inF A k:=fun k hk=>by
    obtain⟨s,hs,hk⟩:=inF_iff.1 hk;exact inF_iff.2 ⟨s,hA s hs,hk⟩
  exact⟨h.heap,h.apart,h.mine,fun e he hk=>h.free e he (hi _ hk),⟨fun r hr=>h.ars.each r (hA r hr),ha⟩,h.fr.to (fun k hk=>.inl hk) (fun k hk=>h.fr.foot k (hi k hk))⟩
theorem WS.acq (h:WS c H A w){g lo hi:Nat}{f:Nat→Value}(hx:HE.holds c.w0 g (.fn lo hi f))(hD:¬c.D g):WS c (H++[(g,.fn lo hi f)]) A w:=by
  have hl:=hx.lt;refine⟨fun e he=>?_,?_,fun e he ho=>?_,fun e he hk=>?_,h.ars,h.fr⟩
  · rcases List.mem_append.1 he with he|he
    · exact h.heap e he
    · obtain rfl:=List.mem_singleton.1 he;exact hx.congr (h.fr.block g hl hD)
  · rw [List.pairwise_append]
    refine⟨h.apart,List.pairwise_singleton _ _,fun p hp q hq=>?_⟩;obtain rfl:=List.mem_singleton.1 hq;intro ho e;have e:p.1=g:=e
    rcases ho with ho|ho
    · rcases h.mine p hp ho with h1|h1
      · omega
      · exact hD (e▸h1)
    · cases ho
  · rcases List.mem_append.1 he with he|he
    · exact h.mine e he ho
    · obtain rfl:=List.mem_singleton.1 he;cases ho
  · rcases List.mem_append.1 he with he|he
    · exact h.free e he hk
    · obtain rfl:=List.mem_singleton.1 he
      rcases h.fr.foot _ hk with h1|h1
      · exact hD h1
      · have:c.w0.heap.size≤g:=h1
        omega
theorem WS.add {g:Nat}{x:HE}(h:WS c H A w)(hx:x.holds w g)(hg:x.own=true→c.w0.heap.size≤g∨c.D g)(hn:¬inF A g)(hd:∀e∈H,x.own=true∨e.2.own=true→e.1≠g):WS c (H++[(g,x)]) A w:=by
  refine⟨fun e he=>?_,?_,fun e he ho=>?_,fun e he=>?_,h.ars,h.fr⟩
  · rcases List.mem_append.1 he with he|he
    · exact h.heap e he
    · obtain rfl:=List.mem_singleton.1 he;exact hx
  · rw [List.pairwise_append]
    refine⟨h.apart,List.pairwise_singleton _ _,fun p hp q hq=>?_⟩;obtain rfl:=List.mem_singleton.1 hq;intro ho e;exact hd p hp ho.symm e
  · rcases List.mem_append.1 he with he|he
    · exact h.mine e he ho
    · obtain rfl:=List.mem_singleton.1 he;exact hg ho
  · rcases List.mem_append.1 he with he|he
    · exact h.free e he
    · obtain rfl:=List.mem_singleton.1 he;exact hn
theorem St.call {ops:Array Oper}{o:Oper}{rest:List Oper}(g h:Nat)(hS:St c n E H A a w){f:FuncId}{args:Array Value}{obs:List Prop}(he:evCall P ops g h E H o=some (f,args,obs))(hob:AllP obs)(hg:guardsOk n ops [o]=true){R:Ending→World→Prop}(hC:Calls P f args w R)
    (hk:∀e w',R e w'→∃v,e=.returned v∧wpList P ops Q rest (a.put o.dst v) w'):wpList P ops Q (o::rest) a w:=by
  have hb:∀d want,guardSlot ops o=some (d,want)→d<a.tmps.size:=by
    intro d want hd
    simp only [guardsOk,hd,Bool.and_true]at hg
    have:d<n:=by simpa using hg
    exact Nat.lt_of_lt_of_le this hS.size
  obtain⟨hw,hr⟩:=evCall_run (c:=c) (A:=A) he hob hS.env hb
  unfold wpList
  rw [if_pos hw];refine .inl ?_
  unfold Oper.wp
  rw [hr w hS.mem];refine hC.mono fun e w' hR=>?_;obtain⟨v,rfl,hk⟩:=hk e w' hR;exact hk
theorem St.put {d:Nat}{v:Value}(hS:St c n E H A a w)(hd:d<n):St c n (putE E d [] v) H A (a.put (some d) v) w:=
  ⟨(put_defers _ _ _).trans hS.defers,by rw [put_size];exact hS.size,agree_put hS.env (Nat.lt_of_lt_of_le hd hS.size) rfl (.inl ⟨(fun p hp=>nomatch hp),rfl⟩),hS.mem⟩
theorem St.to {H':Heap}{A':List Res}{w':World}(hS:St c n E H A a w)(h:WS c H' A' w'):St c n E H' A' a w':=⟨hS.defers,hS.size,hS.env,h⟩
theorem St.cond {t:Nat}{x y:Code}{b:Bool}(hS:St c n E H A a w)(hl:look E t=some ([],.bool b))(h1:b=true→x.wp P Q a w)(h2:b=false→y.wp P Q a w):(Code.cond (.tmp t) x y).wp P Q a w:=
  wp_cond_split (hS.env.at (look_mem hl) (fun p hp=>nomatch hp)) h1 h2
theorem zpt {K:Act→World→Prop}(h:K a w):Exit.then K Q .normal a w:=h
theorem zpe {K:Act→World→Prop}{i:Nat}(h:Q (.exit i) a w):Exit.then K Q (.exit i) a w:=h
theorem zpr {K:Act→World→Prop}(h:Q .ret a w):Exit.then K Q .ret a w:=h
theorem zpb {i:Nat}(h:Q .normal a w):Exit.inBlock i Q .normal a w:=h
theorem zph {i:Nat}(h:Q .normal a w):Exit.inBlock i Q (.exit i) a w:=by
  simp only [Exit.inBlock,if_true];exact h
theorem pop_block_miss {i j:Nat}(hne:Nat.beq j i=false)(h:Q (.exit j) a w):Exit.inBlock i Q (.exit j) a w:=by
  have:¬j=i:=fun e=>by rw [e]at hne;simp at hne
  simp only [Exit.inBlock,if_neg this];exact h
theorem zpc {i:Nat}(h:Q .ret a w):Exit.inBlock i Q .ret a w:=h
theorem zwq {id:Nat}{l:List Oper}{y:Code}(h:wpList P l.toArray (Exit.then (y.wp P Q) Q) l a w):((Code.region id l.toArray false).seq y).wp P Q a w:=wp_seq (wp_region_lit h)
theorem zlq {ops:Array Oper}{y:Code}(h:y.wp P Q a w):wpList P ops (Exit.then (y.wp P Q) Q) [] a w:=h
theorem zln {ops:Array Oper}(h:Q .normal a w):wpList P ops Q [] a w:=h
theorem WS.refn {i:Nat}{b:Nat}{e:TypeId}{m tot:Nat}{f g:Nat→Value}{H':Heap}(h:WS c H A w)(hi:H[i]? =some (b,.row e m tot f))(hg:∀o,o<m→g o=f o)(hH:H.set i (b,.row e m tot g)=H'):WS c H' A w:=by
  subst hH
  have key:∀(j:Nat) (p:Nat×HE),(H.set i (b,.row e m tot g))[j]? =some p→∃p',H[j]? =some p'∧p'.1=p.1∧p'.2.own=p.2.own∧(p'.2.holds w p'.1→p.2.holds w p.1):=by
    intro j p hp;rw [List.getElem?_set]at hp
    split at hp
    · rename_i e1
      split at hp
      · obtain rfl:=Option.some.inj hp
        refine⟨(b,.row e m tot f),by rw [←e1];exact hi,rfl,rfl,?_⟩;rintro⟨cc,h1,h2,h3,h4⟩;exact⟨cc,h1,h2,h3,fun o ho=>by rw [hg o ho];exact h4 o ho⟩
      · simp at hp
    · exact⟨p,hp,rfl,rfl,fun h=>h⟩
  refine⟨fun p hp=>?_,?_,fun p hp ho=>?_,fun p hp=>?_,h.ars,h.fr⟩
  · obtain⟨j,hj⟩:=List.mem_iff_getElem?.1 hp
    obtain⟨p',h1,_,_,h4⟩:=key j p hj;exact h4 (h.heap p' (List.mem_of_getElem? h1))
  · refine pairwise_of_get fun j k p q hjk hp hq=>?_
    obtain⟨p',h1,h2,h3,_⟩:=key j p hp;obtain⟨q',k1,k2,k3,_⟩:=key k q hq;intro ho;rw [←h2,←k2];exact pairwise_get h.apart (by omega) h1 k1 (by rw [h3,k3];exact ho)
  · obtain⟨j,hj⟩:=List.mem_iff_getElem?.1 hp
    obtain⟨p',h1,h2,h3,_⟩:=key j p hj;rw [←h2];exact h.mine p' (List.mem_of_getElem? h1) (h3.trans ho)
  · obtain⟨j,hj⟩:=List.mem_iff_getElem?.1 hp
    obtain⟨p',h1,h2,_,_⟩:=key j p hj;rw [←h2];exact h.free p' (List.mem_of_getElem? h1)
theorem St.loop {σ:Type}{body:Code}(Ef:σ→Env)(Hf:σ→Heap)(Af:σ→List Res)(I:σ→Prop)(μ:σ→Nat)(x0:σ)(h0:I x0)(hS:St c n (Ef x0) (Hf x0) (Af x0) a w)
    (round:∀x,I x→∀a w,St c n (Ef x) (Hf x) (Af x) a w→body.wp P (Exit.then (fun a' w'=>∃x',I x'∧μ x'<μ x∧St c n (Ef x') (Hf x') (Af x') a' w') Q) a w):(Code.loop body).wp P Q a w:=by
  refine wp_loop_ghost (fun k a w=>∃x,μ x=k∧I x∧St c n (Ef x) (Hf x) (Af x) a w) (μ x0) ⟨x0,rfl,h0,hS⟩ ?_;rintro k a w ⟨x,rfl,hI,hS⟩;refine wp_mono (round x hI a w hS) ?_;intro e a' w' hq
  cases e with
  |normal=>
    obtain⟨x',h1,h2,h3⟩:=hq;exact⟨μ x',h2,x',rfl,h1,h3⟩
  |_=>exact hq
theorem St.meet {σ:Type}{x y:Code}(Ef:σ→Env)(Hf:σ→Heap)(Af:σ→List Res)(I:σ→Prop)
    (h1:x.wp P (Exit.then (fun a' w'=>∃z,I z∧St c n (Ef z) (Hf z) (Af z) a' w') Q) a w) (h2:∀z,I z→∀a w,St c n (Ef z) (Hf z) (Af z) a w→y.wp P Q a w):(x.seq y).wp P Q a w:=by
  refine wp_seq (wp_mono h1 ?_);intro e a' w' hq
  cases e with
  |normal=>obtain⟨z,hz,hs⟩:=hq;exact h2 z hz a' w' hs
  |_=>exact hq
def resultsOf (E:Env)(fn:Func):Sem Value:=do
  let vs ←fn.results.mapM fun r=>match r with
    | .tmp t=>pure (rho E (.tmp t))
    | .cell t ty=>do loadVar ty (←asAddr (rho E (.tmp t)))
  pure (if h:vs.size=1 then vs[0]else .tuple vs)
def evRes (P:Program)(fn:Func)(h:Nat)(E:Env)(H:Heap):Option (Value×List Prop):=
  match(fn.results.toList.all fun r=>match r with
    | .tmp t=>okO E [] (.tmp t)
    | .cell t _=>okO E [] (.tmp t))with
  |true=>match absRun P h (fun _=>0) true (resultsOf E fn) ⟨H,0,[]⟩with
    |some (v,s)=>some (v,s.ob)
    |none=>none
  |false=>none
theorem mapM_congr {α β:Type}{f g:α→Sem β}(l:Array α)(h:∀x∈l.toList,f x=g x):l.mapM f=l.mapM g:=by
  rw [Array.mapM_eq_mapM_toList,Array.mapM_eq_mapM_toList]
  congr 1
  have:∀(l:List α),(∀x∈l,f x=g x)→l.mapM f=l.mapM g:=by
    intro l
    induction l with
    |nil=>intro _;rfl
    |cons x l ih=>
      intro h;rw [List.mapM_cons,List.mapM_cons,h x List.mem_cons_self,ih fun y hy=>h y (List.mem_cons_of_mem _ hy)]
  exact this _ h
theorem evRes_run {fn:Func}{h:Nat}{v:Value}{obs:List Prop}(hS:St c n E H A a w)(he:evRes P fn h E H=some (v,obs))(hob:AllP obs):(results fn a.tmps).run P w=.ok v w:=by
  unfold evRes at he
  split at he
  · rename_i hok
    split at he
    · rename_i v' s hr
      simp only [Option.some.injEq,Prod.mk.injEq]at he
      obtain⟨rfl,rfl⟩:=he
      have heq:results fn a.tmps=resultsOf E fn:=by
        unfold results resultsOf
        rw [mapM_congr];intro r hr;have:=List.all_eq_true.1 hok r hr
        cases r with
        |tmp t=>
          have:=agree_eval (C:=[]) hS.env (fun p hp=>nomatch hp) this
          show pure (a.tmps.getD t undef)=_
          exact congrArg pure this
        |cell t ty=>
          have:=agree_eval (C:=[]) hS.env (fun p hp=>nomatch hp) this
          show(do loadVar ty (←asAddr (a.tmps.getD t undef)))=_
          rw [show a.tmps.getD t undef=_ from this]
      rw [absRun_any P h _ (fun j=>w.heap.size+j)]at hr;obtain⟨w',h1,_,_,_,h5⟩:=absRun_sound P h _ true _ _ w _ _ hr hS.mem.fine hob;obtain⟨rfl,_⟩:=h5 rfl;rw [heq];exact h1
    · simp at he
  · simp at he
theorem St.ret {fn:Func}{R:Ending→World→Prop}(h:Nat){v:Value}{obs:List Prop}(hS:St c n E H A a w)(he:evRes P fn h E H=some (v,obs))(hob:AllP obs)(hR:WS c H A w→R (.returned v) w)(hds:c.ds=[]:=by rfl):bodyPost P fn R .ret a w:=
  bodyPost_ret (evRes_run hS he hob) (hS.defers.trans hds) (hR hS.mem)
theorem St.fall {fn:Func}{R:Ending→World→Prop}(h:Nat){v:Value}{obs:List Prop}(hS:St c n E H A a w)(he:evRes P fn h E H=some (v,obs))(hob:AllP obs)(hR:WS c H A w→R (.returned v) w)(hds:c.ds=[]:=by rfl):bodyPost P fn R .normal a w:=
  bodyPost_end (evRes_run hS he hob) (hS.defers.trans hds) (hR hS.mem)
end
def envOf:Nat→List Value→Env
  |_,[]=>[]
  |i,v::l=>(i,[],v)::envOf (i+1) l
theorem agree_envOf {args:List Value}{extra:Array Value} :∀(l:List Value) (i:Nat),args.drop i=l→Agree (envOf i l) { tmps:=args.toArray++extra,defers:=[] }
  |[],_,_=>fun e he=>nomatch he
  |v::l,i,hd=>by
    intro e he
    rcases List.mem_cons.1 he with rfl|he
    · refine .inl ⟨(fun p hp=>nomatch hp),?_⟩
      have hi:args[i]? =some v:=by
        have:=congrArg (fun l=>l[0]?) hd
        simpa using this
      have hlt:=(List.getElem?_eq_some_iff.1 hi).1
      simp only [Array.getD_eq_getD_getElem?]
      rw [Array.getElem?_append_left (by simpa using hlt)]
      simp [hi]
    · refine agree_envOf l (i+1) ?_ e he
      have:=congrArg (List.drop 1) hd
      simpa [List.drop_drop,Nat.add_comm]using this
theorem enter {P:Program}{f:FuncId}{fn:Func}{code:Code}{args:List Value}{w:World}{R:Ending→World→Prop}{D:Nat→Prop}{A:List Res}(hf:P.funcs[f]? =some fn)(hb:fn.body=some code)(n:Nat)(hn:fn.ntmps=n)(H:Heap)(hw:WS ⟨w,D,[]⟩ H A w)
    (h:∀a,St ⟨w,D,[]⟩ n (envOf 0 args) H A a w→code.wp P (bodyPost P fn R) a w):Calls P f args.toArray w R:=by
  refine calls_of_wp hf hb (h _ ⟨rfl,?_,agree_envOf args 0 rfl,hw⟩)
  simp [hn];omega
theorem WS.keep0 {c:Cx}{H:Heap}{A:List Res}{w w':World}(h:WS c H A w)(hf:Fr w w' no no):WS c H A w':=by
  have hb:∀k,k<w.heap.size→w'.heap[k]? =w.heap[k]?:=fun k hk=>hf.block k hk (fun h=>h)
  exact h.stepX hf (fun k hk=>hk.elim) (h.ars.congr fun k hk=>hb k (h.ars.lt hk)) (fun k hk=>.inl hk) (fun j e' he=>⟨e',he,rfl,rfl,.inr ⟨rfl,fun h=>h⟩⟩)
theorem AllAr.one {w:World}{r:Res}(h:r.R w):AllAr w [r]:=⟨fun s hs=>by obtain rfl:=List.mem_singleton.1 hs;exact h,List.pairwise_singleton _ _⟩
theorem WS.fr0 {c:Cx}{H:Heap}{A:List Res}{w:World}(h:WS c H A w):Fr c.w0 w c.D no:=h.fr.none
theorem WS.frA {c:Cx}{H:Heap}{r:Res}{w:World}(h:WS c H [r] w):Fr c.w0 w c.D r.F:=h.fr.to (fun k hk=>.inl hk) (fun k hk=>h.fr.foot k (.inl hk))
theorem WS.wins {F:Nat→Prop}{w0:World}{s:Nat}{H:Heap}{r:Res}{w:World}(h:WS ⟨w0,orF F (K.one s),[]⟩ H [r] w){x:HE}(i:Nat)(hi:H[i]? =some (s,x)):Wins w0 F r.F:=fun k hk=>by
  rcases h.fr.foot k (.inl hk)with h1|h1
  · rcases h1 with h1|h1
    · exact .inl h1
    · exact absurd (.inl ((show k=s from h1)▸hk)) (h.free _ (List.mem_of_getElem? hi))
  · exact .inr h1
theorem tuple2 {a b c d:Value}(h:a=c)(k:b=d):Value.tuple #[a,b]=.tuple #[c,d]:=by rw [h,k]
theorem tuple3 {a b c a' b' c':Value}(h:a=a')(k:b=b')(l:c=c'):Value.tuple #[a,b,c]=.tuple #[a',b',c']:=by rw [h,k,l]
theorem vint {k:IntKind}{a b:Int}(h:a=b):Value.int k a=.int k b:=by rw [h]
theorem vbool {a b:Bool}(h:a=b):Value.bool a=.bool b:=by rw [h]
theorem vstr {a b:ByteArray}(h:a=b):Value.string a=.string b:=by rw [h]
theorem retd {a b:Value}(h:a=b):Ending.returned a=.returned b:=by rw [h]
def iand (k:IntKind)(a b:Int):Int:=k.wrap ((BitVec.ofInt k.bits a&&&BitVec.ofInt k.bits b).toNat:Int)
def ior (k:IntKind)(a b:Int):Int:=k.wrap ((BitVec.ofInt k.bits a|||BitVec.ofInt k.bits b).toNat:Int)
def ixor (k:IntKind)(a b:Int):Int:=k.wrap ((BitVec.ofInt k.bits a^^^BitVec.ofInt k.bits b).toNat:Int)
def iandNot (k:IntKind)(a b:Int):Int:=k.wrap ((BitVec.ofInt k.bits a&&& ~~~(BitVec.ofInt k.bits b)).toNat:Int)
def imin (x y:Int):Int:=if y<x then y else x
def imax (x y:Int):Int:=if x<y then y else x
theorem quo_in {x d:Int}(h0:0≤x)(h1:x≤9223372036854775807)(hd:1≤d):IntKind.i64.wrap (Int.tdiv x d)=x/d:=by
  rw [Int.tdiv_eq_ediv_of_nonneg h0];have h2:0≤x/d:=Int.ediv_nonneg h0 (by omega);have h3:x/d≤x:=Int.ediv_le_self d h0;rw [IntKind.wrap_i64];omega
theorem rem_in {x d:Int}(h0:0≤x):Int.tmod x d=x%d:=Int.tmod_eq_emod_of_nonneg h0
theorem i64_in {x:Int}(h: -9223372036854775808≤x∧x≤9223372036854775807):IntKind.i64.wrap x=x:=by rw [IntKind.wrap_i64];omega
theorem u64_in {x:Int}(h:0≤x∧x≤18446744073709551615):IntKind.u64.wrap x=x:=by
  unfold IntKind.wrap
  have:x%(2^IntKind.u64.bits:Int)=x:=Int.emod_eq_of_lt h.1 (by simp [IntKind.bits];omega)
  simp [this,IntKind.signed]
theorem u8_in {x:Int}(h:0≤x∧x≤255):IntKind.u8.wrap x=x:=by
  unfold IntKind.wrap
  have:x%(2^IntKind.u8.bits:Int)=x:=Int.emod_eq_of_lt h.1 (by simp [IntKind.bits];omega)
  simp [this,IntKind.signed]
theorem HE.of_cells {w:World}{g:Nat}{cs:List Value}{T:TypeId}{hi:Nat}{f:Nat→Value}(h:HE.holds w g (.cells cs T))(e:∀o,o<hi→cs[o]? =some (f o)):HE.holds w g (.fn 0 hi f):=by
  refine⟨cs.toArray,T,(0,0),h,fun o _ ho=>?_⟩
  simpa using e o ho
theorem HE.of_row {w:World}{g:Nat}{e:TypeId}{n tot:Nat}{f f':Nat→Value}(h:HE.holds w g (.row e n tot f))(hf:∀o,o<n→f o=f' o):HE.holds w g (.fn 0 n f'):=by
  obtain⟨c,h1,h2,h3,h4⟩:=h;exact⟨c,e,(0,0),h1,fun o _ ho=>by rw [h4 o ho,hf o ho]⟩
def ints (l:List Int)(o x:Nat):Value:=.int .i64 (l.getD (x-o) 0)
theorem bat_byte (s:ByteArray)(i:Int):0≤bat s i∧bat s i≤255:=by
  unfold bat
  have:=(s.data.toList.getD i.toNat 0).toNat_lt;omega
theorem cell_block {w:World}{a:Addr}{v:Value}(h:w.cell? a=some v):a.spot=none∧∃c T fz,w.heap[a.block]? =some (.cells c T fz)∧c[a.off]? =some v:=by
  unfold World.cell? at h
  split at h
  · rename_i c T fz hb
    split at h
    · simp at h
    · rename_i hs
      refine⟨?_,c,T,fz,hb,h⟩
      simpa using hs
  · simp at h
section
variable {c:Cx}{n:Nat}{E:Env}{H:Heap}{A:List Res}{a:Act}{w w':World}
def Outs (w w':World)(H:Heap):Heap→Prop
  |[]=>True
  |e::l=>(e.2.own=false∧e.2.holds w' e.1∧((∃(i:Nat) (x:HE),H[i]? =some (e.1,x)∧x.own=false)∨w.heap.size≤e.1))∧Outs w w' H l
theorem Outs.mem {w w':World}{H:Heap} :∀ {L:Heap},Outs w w' H L→∀e∈L,e.2.own=false∧e.2.holds w' e.1∧((∃(i:Nat) (x:HE),H[i]? =some (e.1,x)∧x.own=false)∨w.heap.size≤e.1)
  |[],_,e,he=>nomatch he
  |x::l,h,e,he=>by
    rcases List.mem_cons.1 he with rfl|he
    · exact h.1
    · exact Outs.mem h.2 e he
theorem WS.outs (h:WS c H A w)(hf:Fr w w' no no)(L:Heap)(hL:Outs w w' H L):WS c (H++L) A w':=by
  have hk:=h.keep0 hf;have hm:=hL.mem;refine⟨fun e he=>?_,?_,fun e he ho=>?_,fun e he hin=>?_,hk.ars,hk.fr⟩
  · rcases List.mem_append.1 he with he|he
    · exact hk.heap e he
    · exact(hm e he).2.1
  · rw [List.pairwise_append]
    refine⟨hk.apart,pairwise_of_get fun i j p q hij hp hq ho=>?_,fun p hp q hq ho e=>?_⟩
    · have h1:=(hm p (List.mem_of_getElem? hp)).1
      have h2:=(hm q (List.mem_of_getElem? hq)).1;rw [h1,h2]at ho
      simp at ho
    · obtain⟨q1,q2,q3⟩:=hm q hq
      rcases ho with ho|ho
      · rcases q3 with⟨i,x,hi,hx⟩|q3
        · obtain⟨j,hj⟩:=List.mem_iff_getElem?.1 hp
          have hne:j≠i:=by
            rintro rfl;rw [hi]at hj;obtain rfl:=Option.some.inj hj;have:x.own=true:=ho;rw [hx]at this;cases this
          exact pairwise_get h.apart hne hj hi (.inl ho) e
        · have h3:=(h.heap p hp).lt
          have e:p.1=q.1:=e;omega
      · rw [q1]at ho;cases ho
  · rcases List.mem_append.1 he with he|he
    · exact hk.mine e he ho
    · rw [(hm e he).1]at ho;cases ho
  · rcases List.mem_append.1 he with he|he
    · exact hk.free e he hin
    · obtain⟨q1,q2,q3⟩:=hm e he
      rcases q3 with⟨i,x,hi,hx⟩|q3
      · exact h.free _ (List.mem_of_getElem? hi) hin
      · have:=h.ars.lt hin;omega
theorem WS.outR (h:WS c H A w)(hf:Fr w w' no no){g':Nat}{e:TypeId}{m tot:Nat}{f:Nat→Value}(hg:w.heap.size≤g')(ho:HE.holds w' g' (.row e m tot f)):
    WS c (H++[(g',.row e m tot f)]) A w':=
  (h.keep0 hf).add ho (fun _=>.inl (Nat.le_trans h.fr.size hg)) (fun hn=>by have:=h.ars.lt hn;omega) (fun e he _=>by have:=(h.heap e he).lt;omega)
def distinct:List Nat→Bool
  |[]=>true
  |i::l=>l.all (fun j=> !Nat.beq i j)&&distinct l
theorem distinct_ne:∀ {l:List Nat},distinct l=true→∀(i j x y:Nat),i<j→l[i]? =some x→l[j]? =some y→x≠y
  |[],_,i,j,x,y,_,hx,_=>by simp at hx
  |z::l,h,i,j,x,y,hij,hx,hy=>by
    simp only [distinct,Bool.and_eq_true,List.all_eq_true]at h
    cases j with
    |zero=>omega
    |succ j=>
      have hy':l[j]? =some y:=by simpa using hy
      cases i with
      |zero=>
        have hx:z=x:=by simpa using hx
        subst hx;have:=h.1 y (List.mem_of_getElem? hy');intro e;subst e
        simp at this
      |succ i=>exact distinct_ne h.2 i j x y (by omega) (by simpa using hx) hy'
theorem WS.perm {H':Heap}(l:List Nat)(h:WS c H A w)(hp:pickH H l=some H')(hd:distinct l=true):WS c H' A w:=by
  refine⟨fun e he=>h.heap e (pickH_mem hp e he),?_,fun e he=>h.mine e (pickH_mem hp e he),fun e he=>h.free e (pickH_mem hp e he),h.ars,h.fr⟩;refine pairwise_of_get fun i j x y hij hx hy=>?_;obtain⟨i',h1,h2⟩:=pickH_spec hp i x hx;obtain⟨j',k1,k2⟩:=pickH_spec hp j y hy;exact pairwise_get h.apart (distinct_ne hd i j i' j' hij h1 k1) h2 k2
theorem St.perm {H':Heap}(l:List Nat)(h:St c n E H A a w)(hp:pickH H l=some H')(hd:distinct l=true):St c n E H' A a w:=h.to (h.mem.perm l hp hd)
end
theorem wpList_of_quiet {P:Program}{ops:Array Oper}{w:World}{K:Act→Prop}{Q:Exit→Act→World→Prop}(hQ:∀a',K a'→Q .normal a' w):∀(l:List Oper) (a:Act),wpQuiet P ops (fun w'=>w'=w) K l a→wpList P ops Q l a w
  |[],a,h=>hQ a h
  |o::l,a,h=>by
    unfold wpQuiet at h
    unfold wpList
    split
    · rename_i hw
      rw [if_pos hw]at h;obtain⟨v,h1,h2⟩:=h;have h1:=h1 w rfl
      unfold Oper.quietAt at h1
      refine .inl ?_
      unfold Oper.wp
      generalize (execOp a.eval o).run P w=r at*
      cases r with
      |ok x w'=>
        cases x<;>simp only [Oper.quietUpon]at h1
        case value u=>obtain⟨e1,e2⟩:=h1;subst e1;subst e2;exact wpList_of_quiet hQ l _ h2
        case skip=>obtain⟨e1,e2⟩:=h1;subst e2;subst e1;exact wpList_of_quiet hQ l _ h2
        case enter f args=>
          obtain⟨e0,h1⟩:=h1;subst e0;refine h1.mono fun e w' hh=>?_;obtain⟨rfl,e2⟩:=hh;subst e2;exact wpList_of_quiet hQ l _ h2
      |halt x w'=>simp only [Oper.quietUpon]at h1
    · rename_i hw
      rw [if_neg hw]at h;exact wpList_of_quiet hQ l _ h
theorem St.still {P:Program}{c:Cx}{n:Nat}{E:Env}{H:Heap}{A:List Res}{a:Act}{w:World}{Q:Exit→Act→World→Prop}{id:Nat}{l:List Oper}(hs:List Hint)(kE kH:List Nat)(hS:St c n E H A a w){E':Env}{H':Heap}{obs:List Prop}
    (he:evSeg P n true l.toArray (fun _=>0) hs l E H kE kH=some (E',H',obs)) (hob:AllP obs) (h:∀a',St c n E' H' A a' w→Q .normal a' w):(Code.region id l.toArray false).wp P Q a w:=by
  refine wp_region_lit (wpList_of_quiet (K:=fun a'=>St c n E' H' A a' w) (fun a' k=>h a' k) _ _ ?_)
  have:=quiet_seg (K:=fun a'=>St c n E' H' A a' w) (rest:=[]) hs kE kH he hob hS.env hS.size hS.defers (C:=fun w'=>w'=w) (fun w' e=>e▸hS.mem) fun a' h1 h2 h3=>wpQuiet_nil (by
    obtain⟨g1,g2,E1,s1,g3,g4,g5,_⟩:=evSeg_spec he;have hh:s1.heap=H:=evOps_heap _ _ _ _ _ _ g3
    exact⟨h3,h2,h1,hS.mem.pick (by rw [←hh];exact g5) g2⟩)
  rw [List.append_nil]at this;exact this
theorem agg2 {a b c d:Value}(h:a=c)(k:b=d):Value.agg #[a,b]=.agg #[c,d]:=by rw [h,k]
theorem Fr.alloc (w:World)(o:Obj):Fr w (w.drew.alloc o) no no:=by
  refine⟨rfl,rfl,rfl,?_,fun k hk _=>?_,fun k h=>.inl h⟩
  · show w.heap.size≤(w.heap.push o).size
    rw [Array.size_push];omega
  · show(w.heap.push o)[k]? =w.heap[k]?
    rw [Array.getElem?_push,if_neg (by omega)]
theorem alloc_at (w:World)(o:Obj):(w.drew.alloc o).heap[w.heap.size]? =some o:=by
  show(w.heap.push o)[w.heap.size]? =some o
  rw [Array.getElem?_push,if_pos rfl]
theorem St.append {P:Program}{c:Cx}{n:Nat}{E:Env}{H:Heap}{A:List Res}{a:Act}{w:World}{Q:Exit→Act→World→Prop}{ops:Array Oper}{o:Oper}{rest:List Oper}(hS:St c n E H A a w)(s x:Operand)(t t2:TypeId)
    (ho:o.op=.call { callee:=.builtin .append,args:=#[s,x],argTypes:=#[t,t2] }) (hg:o.guard=none) (hok:okAll E [] [s,x]=true) {v:Value} {w':World}
    (hr:(Builtin.append_ #[t,t2] o.type #[rho E s,rho E x]).run P w=.ok v w') (h:wpList P ops Q rest (a.put o.dst v) w'):wpList P ops Q (o::rest) a w:=by
  unfold wpList
  rw [if_pos (by simp [Region.wanted,hg])];refine .inl ?_;have e1:a.eval s=rho E s:=agree_eval (C:=[]) hS.env (fun p hp=>by cases hp) (okAll_mem hok s (by simp));have e2:a.eval x=rho E x:=agree_eval (C:=[]) hS.env (fun p hp=>by cases hp) (okAll_mem hok x (by simp))
  unfold Oper.wp execOp
  simp only [ho,resolve,invoke,builtin,Sem.run_bind,Sem.run_pure,Result.andThen_ok,List.map_toArray,List.map_cons,List.map_nil,e1,e2,hr]
  exact h
theorem info_get {P:Program}{e:TypeId}{z:Value}{s b:Nat}(h:(P.info? e).map (fun i=>(i.zero,i.size,i.bytes))=some (some z,s,b)):∃i,P.info? e=some i∧i.zero=some z∧i.size=s∧i.bytes=b:=by
  cases hi:P.info? e with
  |none=>rw [hi]at h;cases h
  |some i=>
    rw [hi]at h
    simp only [Option.map_some,Option.some.injEq,Prod.mk.injEq]at h
    exact⟨i,rfl,h.1,h.2.1,h.2.2⟩
theorem HE.fn_hi {w:World}{g lo hi hi':Nat}{f:Nat→Value}(hh:hi'≤hi)(h:HE.holds w g (.fn lo hi f)):HE.holds w g (.fn lo hi' f):=by
  obtain⟨c,T,fz,h1,h2⟩:=h;exact⟨c,T,fz,h1,fun o a b=>h2 o a (by omega)⟩
theorem pick_ne {c:Cx}{H H':Heap}{A:List Res}{w:World}{l:List Nat}(h:WS c H A w)(hp:pickH H l=some H'){i b:Nat}{x:HE}(hi:H[i]? =some (b,x))(hx:x.own=true)(hn:l.all (fun j=> !Nat.beq j i)=true):∀e∈H',e.1≠b:=by
  intro e he;obtain⟨j,hj⟩:=List.mem_iff_getElem?.1 he;obtain⟨k,h1,h2⟩:=pickH_spec hp j e hj
  have:k≠i:=by
    have:=List.all_eq_true.1 hn k (List.mem_of_getElem? h1);rintro rfl
    simp at this
  exact pairwise_get h.apart this h2 hi (.inr hx)
theorem run_clone {P:Program}{w:World}{t e:TypeId}(ty:TypeId){i:TypeInfo}{z:Value}(ht:P.underlying t=some (.slice e))(hi:P.info? e=some i)(hz:i.zero=some z)(h1:i.size=1)(hb:i.bytes≤64){b g o nw c:Nat}{f:Nat→Value}
    (hg:HE.holds w g (.fn o (o+nw) f)) (hbb:HE.holds w b (.cells [] e)) (hn:nw≤2^32):
    ∃g' c' tot w',(Builtin.append_ #[t,t] ty #[.slice (some ⟨b,0,none⟩) 0 0,.slice (some ⟨g,o,none⟩) nw c]).run P w=.ok (.slice (some ⟨g',0,none⟩) nw c') w'∧Fr w w' no no∧(g'=b∨w.heap.size=g')∧HE.holds w' g' (.row e nw tot (fun x=>f (o+x)))∧nw≤c':=by
  obtain⟨cc,T,fz,hc,hf⟩:=hg;have hnl:((List.range nw).map fun j=>f (o+j)).length=nw*i.size:=by simp [h1]
  have hne:∀j v,((List.range nw).map fun j=>f (o+j))[j]? =some v→w.cell? ((⟨g,o,none⟩:Addr).add j)=some v:=by
    intro j v hj
    have hjn:j<nw:=by
      have:=(List.getElem?_eq_some_iff.1 hj).1
      simpa using this
    rw [List.getElem?_map,List.getElem?_range hjn]at hj
    simp only [Option.map_some,Option.some.injEq]at hj
    subst hj;rw [addr_add _ rfl]
    unfold World.cell?
    simp only [hc]
    exact hf _ (by omega) (by omega)
  rcases Nat.eq_zero_or_pos nw with h0|h0
  · subst h0
    have hcell:w.heap[b]? =some (.cells #[] e (0,0)):=hbb;refine⟨b,0,0,w,?_,Fr.refl w no,.inl rfl,⟨#[],hcell,rfl,Nat.le_refl _,fun o ho=>by omega⟩,Nat.le_refl _⟩;have hfc:=run_firstCells_some (P:=P) w i.size 0 ⟨g,o,none⟩ 0 c [] (by simp) (by simp)
    simp [Builtin.append_,run_underlying ht,sizeOf,typeInfo,zeroValue,hi,hz,Builtin.lenOf,hfc,storeCells]
  · have hfit:Builtin.nextslicecap (0+nw) 0*i.bytes≤281474976710656:=by
      rw [Nat.zero_add,nextslicecap_zero h0];have:nw*i.bytes≤2^32*64:=Nat.mul_le_mul hn hb;omega
    have hr:=run_append_grow (P:=P) (w:=w) t ty e i z ht hi hz ⟨b,0,none⟩ 0 0 [] (by simp) (by simp) ⟨g,o,none⟩ nw c _ hnl hne (by omega) (by omega) hfit;rw [Nat.zero_add]at hr;refine⟨_,_,_,_,hr,Fr.alloc _ _,.inr rfl,⟨_,alloc_at _ _,rfl,?_,fun x hx=>?_⟩,grownCap_ge _ _ _ _⟩
    · simp only [Array.size_append,List.size_toArray,List.length_nil,List.length_map,List.length_range]
      omega
    · rw [Array.getElem?_append_left (by simp;exact hx),Array.getElem?_append_right (by simp)]
      simp [hx]
theorem St.clone {P:Program}{c:Cx}{n:Nat}{E:Env}{H:Heap}{A:List Res}{a:Act}{w:World}{Q:Exit→Act→World→Prop}{ops:Array Oper}{o:Oper}{rest:List Oper}(hS:St c n E H A a w)(s x:Operand)(t:TypeId)
    (ho:o.op=.call { callee:=.builtin .append,args:=#[s,x],argTypes:=#[t,t] }) (hgd:o.guard=none) (hok:okAll E [] [s,x]=true)
    {e:TypeId} {i:TypeInfo} {z:Value} (ht:P.underlying t=some (.slice e)) (hi:P.info? e=some i) (hz:i.zero=some z) (h1:i.size=1) (hby:i.bytes≤64) {b g off nw cp:Nat} {f f':Nat→Value} (ib ig:Nat)
    (hb:H[ib]? =some (b,.cells [] e)) (hg:H[ig]? =some (g,.fn off (off+nw) f)) (hs:rho E s=.slice (some ⟨b,0,none⟩) 0 0) (hx:rho E x=.slice (some ⟨g,off,none⟩) nw cp) (hn:nw≤2^32) (hf:∀j,j<nw→f (off+j)=f' j)
    (l:List Nat) {H':Heap} (hp:pickH H l=some H') (hd:distinct l=true) (hnl:l.all (fun j=> !Nat.beq j ib)=true) {d:Nat} (hdst:o.dst=some d) (hdn:d<n)
    (h:∀g' c' tot w' a',(c.w0.heap.size≤g'∨c.D g')→nw≤c'→St c n (putE E d [] (.slice (some ⟨g',0,none⟩) nw c')) (H'++[(g',.row e nw tot f')]) A a' w'→wpList P ops Q rest a' w'):wpList P ops Q (o::rest) a w:=by
  have hbh:=hS.mem.heap _ (List.mem_of_getElem? hb);have hgh:=hS.mem.heap _ (List.mem_of_getElem? hg);obtain⟨g',c',tot,w',hr,hF,hgg,hh,hcc⟩:=run_clone (P:=P) (w:=w) (t:=t) (e:=e) (c:=cp) o.type ht hi hz h1 hby hgh hbh hn;refine hS.append s x t t ho hgd hok (by rw [hs,hx];exact hr) ?_;have hlt:w.heap.size≤g'∨g'=b:=by rcases hgg with rfl|rfl;exact .inr rfl;exact .inl (Nat.le_refl _)
  have hmine:c.w0.heap.size≤g'∨c.D g':=by
    rcases hlt with hl|rfl
    · exact .inl (Nat.le_trans hS.mem.fr.size hl)
    · exact hS.mem.mine _ (List.mem_of_getElem? hb) rfl
  have hw:WS c H' A w':=(hS.mem.perm l hp hd).keep0 hF
  have hw2:WS c (H'++[(g',.row e nw tot f')]) A w':=by
    refine hw.add ?_ (fun _=>hmine) (fun hin=>?_) (fun q hq _=>?_)
    · obtain⟨cc,k1,k2,k3,k4⟩:=hh
      exact⟨cc,k1,k2,k3,fun j hj=>(k4 j hj).trans (congrArg some (hf j hj))⟩
    · rcases hlt with hl|rfl
      · have:=hS.mem.ars.lt hin;omega
      · exact hS.mem.free _ (List.mem_of_getElem? hb) hin
    · rcases hlt with hl|rfl
      · have:=(hS.mem.heap q (pickH_mem hp q hq)).lt;omega
      · exact pick_ne hS.mem hp hb rfl hnl q hq
  rw [hdst];exact h g' c' tot w' _ hmine hcc ((hS.to hw2).put hdn)
def appF (f:Nat→Value)(n:Nat)(news:List Value)(x:Nat):Value:=if x<n then f x else news.getD (x-n) undef
theorem run_app {P:Program}{w:World}{t e:TypeId}(ty:TypeId){i:TypeInfo}{z:Value}(ht:P.underlying t=some (.slice e))(hi:P.info? e=some i)(hz:i.zero=some z)(h1:i.size=1)(hby:i.bytes≤64)(hzc:z.cells.size=1)
    {b n tot:Nat} {f:Nat→Value} (hrow:HE.holds w b (.row e n tot f)) {a:Addr} {m c:Nat} {news:List Value} (hl:news.length=m) (hnews:∀j u,news[j]? =some u→w.cell? (a.add j)=some u) (ho:∀u∈news,u.oneCell'=true) (hn:n+m≤2^32):
    ∃b' tot' w',(Builtin.append_ #[t,t] ty #[.slice (some ⟨b,0,none⟩) n tot,.slice (some a) m c]).run P w=.ok (.slice (some ⟨b',0,none⟩) (n+m) tot') w'∧(b'=b∨w.heap.size=b')∧HE.holds w' b' (.row e (n+m) tot' (appF f n news))∧
      w'.os=w.os∧w'.tape=w.tape∧w'.output=w.output∧w.heap.size≤w'.heap.size∧∀k,k<w.heap.size→k≠b→w'.heap[k]? =w.heap[k]?:=by
  obtain⟨cur,hc,hsz,hnt,hf⟩:=hrow;have hcl:cur.toList.length=tot:=by simpa using hsz
  have hget:∀j,j<n→cur.toList[j]? =some (f j):=fun j hj=>by rw [Array.getElem?_toList];exact hf j hj
  have hnl:news.length=m*i.size:=by rw [h1,Nat.mul_one];exact hl
  by_cases hroom:n+m≤tot
  · have hr:=run_append_room (P:=P) w t ty e i ht hi b n tot cur hc a m c news hnl hnews ho hroom (by rw [h1,Nat.mul_one];omega)
    rw [h1,Nat.mul_one]at hr;refine⟨b,tot,_,hr,.inl rfl,⟨_,setRow_heap w b cur _ e _ hc,?_,hroom,fun x hx=>?_⟩,rfl,rfl,rfl,by simp,fun k hk hkb=>setRow_other w b k _ hkb⟩
    · simp only [List.size_toArray,List.length_append,List.length_take,List.length_drop,hcl]
      omega
    · rw [List.getElem?_toArray]
      unfold appF
      by_cases hx2:x<n
      · rw [if_pos hx2,List.append_assoc,List.getElem?_append_left (by simp [hcl];omega),List.getElem?_take_of_lt hx2]
        exact hget x hx2
      · rw [if_neg hx2,List.append_assoc,List.getElem?_append_right (by simp [hcl];omega),List.length_take,hcl,show min n tot=n by omega,List.getElem?_append_left (by omega),List.getD_eq_getElem?_getD,List.getElem?_eq_getElem (by omega)]
        rfl
  · have hol:((List.range n).map f).length=n*i.size:=by simp [h1]
    have hold:∀j v,((List.range n).map f)[j]? =some v→w.cell? ((⟨b,0,none⟩:Addr).add j)=some v:=by
      intro j v hj
      have hjn:j<n:=by
        have:=(List.getElem?_eq_some_iff.1 hj).1
        simpa using this
      rw [List.getElem?_map,List.getElem?_range hjn]at hj
      simp only [Option.map_some,Option.some.injEq]at hj
      subst hj;rw [addr_add _ rfl,Nat.zero_add]
      unfold World.cell?
      simp only [hc]
      exact hf _ hjn
    have hfit:Builtin.nextslicecap (n+m) tot*i.bytes≤281474976710656:=growslice_fits (by omega) (by
      have:(n+m)*i.bytes≤2^32*64:=Nat.mul_le_mul hn hby
      omega)
    have hr:=run_append_grow (P:=P) (w:=w) t ty e i z ht hi hz ⟨b,0,none⟩ n tot _ hol hold a m c news hnl hnews (by omega) (by omega) hfit;have hge:=grownCap_ge w (n+m) tot e;refine⟨w.heap.size,_,_,hr,.inr rfl,⟨_,alloc_at _ _,?_,hge,fun x hx=>?_⟩,rfl,rfl,rfl,(Fr.alloc w _).size,fun k hk _=>(Fr.alloc w _).block k hk (fun h=>h)⟩
    · simp only [Array.size_append,List.size_toArray,List.length_map,List.length_range,size_zeroCells,hzc,hl]
      omega
    · have hx1:x<(((List.range n).map f).toArray++news.toArray).size:=by simp [hl];omega
      rw [Array.getElem?_append_left hx1]
      unfold appF
      by_cases hx2:x<n
      · rw [if_pos hx2,Array.getElem?_append_left (by simpa using hx2)]
        simp [hx2]
      · rw [if_neg hx2,Array.getElem?_append_right (by simp;omega)]
        simp only [List.size_toArray,List.length_map,List.length_range,List.getElem?_toArray]
        rw [List.getD_eq_getElem?_getD,List.getElem?_eq_getElem (by omega)]
        rfl
theorem WS.turned {c:Cx}{H H':Heap}{A:List Res}{w w':World}(h:WS c H A w)(l:List Nat)(hp:pickH H l=some H')(hd:distinct l=true){i b:Nat}{x:HE}(hi:H[i]? =some (b,x))(hx:x.own=true)(hnl:l.all (fun j=> !Nat.beq j i)=true)
    (h1:w'.os=w.os) (h2:w'.tape=w.tape) (h3:w'.output=w.output) (h4:w.heap.size≤w'.heap.size) (h5:∀k,k<w.heap.size→k≠b→w'.heap[k]? =w.heap[k]?):WS c H' A w':=by
  have hq:=h.perm l hp hd;have hne:=pick_ne h hp hi hx hnl;have hb:=h.mine _ (List.mem_of_getElem? hi) hx;refine⟨fun e he=>(hq.heap e he).congr (h5 _ (hq.heap e he).lt (hne e he)),hq.apart,hq.mine,hq.free,h.ars.congr fun k hk=>h5 k (h.ars.lt hk) (fun e=>h.free _ (List.mem_of_getElem? hi) (e▸hk)),?_⟩;exact⟨h1.trans h.fr.os,h2.trans h.fr.tape,h3.trans h.fr.output,Nat.le_trans h.fr.size h4,fun k hk hn=>(h5 k (Nat.lt_of_lt_of_le hk h.fr.size) (fun e=>by subst e;rcases hb with hb|hb;omega;exact hn hb)).trans (h.fr.block k hk hn),h.fr.foot⟩
inductive Ob where
  |e (b:Nat)
  |t (x:Bool)
  |u
  |p (P:Prop)
def Ob.sem:Ob→Prop
  | .e b=>b=b
  | .t x=>(Value.bool x)=.bool x
  | .u=>undef=undef
  | .p P=>P
def obP:List Ob→List Prop
  |[]=>[]
  |o::l=>o.sem::obP l
def obQ:List Ob→Prop
  |[]=>True
  | .p P::l=>P∧obQ l
  | .e _::l=>obQ l
  | .t _::l=>obQ l
  | .u::l=>obQ l
theorem obQ.all:∀ {l:List Ob},obQ l→AllP (obP l)
  |[],_=>trivial
  | .p P::l,h=>⟨h.1,obQ.all h.2⟩
  | .e _::l,h=>⟨rfl,obQ.all (l:=l) h⟩
  | .t _::l,h=>⟨rfl,obQ.all (l:=l) h⟩
  | .u::l,h=>⟨rfl,obQ.all (l:=l) h⟩
def sk:List (Nat×Value)→List Nat→List Nat
  |[],k=>k
  |(t,_)::l,k=>t::sk l k
def keepE (E:Env):List Nat→Env
  |[]=>[]
  |t::k=>match look E t with
    |some (_,v)=>(t,[],v)::keepE E k
    |none=>keepE E k
def selE:List (Nat×Value)→Env→List Nat→Env
  |[],E,k=>keepE E k
  |(t,v)::l,E,k=>(t,[],v)::selE l E k
abbrev PH:=List (Nat×Option (Nat×HE))
def selH (H:Heap):PH→Heap
  |[]=>[]
  |(_,some e)::l=>e::selH H l
  |(i,none)::l=>match H[i]? with
    |some e=>e::selH H l
    |none=>selH H l
def hk:PH→List Nat
  |[]=>[]
  |(i,_)::l=>i::hk l
section
variable {P:Program}{c:Cx}{n:Nat}{E:Env}{H:Heap}{A:List Res}{a:Act}{w:World}{Q:Exit→Act→World→Prop}
def Seg (P:Program)(n:Nat)(q:Bool)(ops:Array Oper)(ν:Nat→Nat)(hs:List Hint)(l:List Oper)(E:Env)(H:Heap)(kE:List Nat)(K:Env→Heap→Prop):Prop:=
  ∃(pE:List (Nat×Value)) (pH:PH) (ob:List Ob),evSeg P n q ops ν hs l E H (sk pE kE) (hk pH)=some (selE pE E kE,selH H pH,obP ob)∧obQ ob∧K (selE pE E kE) (selH H pH)
theorem seg {q:Bool}{ops:Array Oper}{ν:Nat→Nat}{hs:List Hint}{l:List Oper}{kE:List Nat}{K:Env→Heap→Prop}(pE:List (Nat×Value))(pH:PH)(ob:List Ob)(hq:obQ ob)(h:K (selE pE E kE) (selH H pH))
    (he:evSeg P n q ops ν hs l E H (sk pE kE) (hk pH)=some (selE pE E kE,selH H pH,obP ob):=by as_aux_lemma=>kernel_rfl):Seg P n q ops ν hs l E H kE K:=⟨pE,pH,ob,he,hq,h⟩
theorem St.seg1 {ops:Array Oper}{l rest:List Oper}{hs:List Hint}{kE:List Nat}{K:Env→Heap→Prop}(hS:St c n E H A a w)(h:Seg P n false ops (fun j=>w.heap.size+j) hs l E H kE K)
    (hK:∀E' H',K E' H'→∀a' w',St c n E' H' A a' w'→wpList P ops Q rest a' w'):wpList P ops Q (l++rest) a w:=by
  obtain⟨pE,pH,ob,he,hq,hk⟩:=h;have hob:=hq.all
  unfold evSeg at he
  split at he
  · rename_i hg
    simp only [Bool.and_eq_true]at hg
    split at he
    · rename_i E1 s1 h1
      split at he
      · rename_i E2 H2 h2 h3
        simp only [Option.some.injEq,Prod.mk.injEq]at he
        obtain⟨rfl,rfl,e3⟩:=he;rw [←e3]at hob;refine wpList_evOps rest hs l _ _ _ _ _ _ h1 hg.1 hS.env hS.size hS.mem.fine hob fun a' w' g1 g2 g3 g4 g5 g6=>?_;exact hK _ _ hk a' w' ⟨g3.trans hS.defers,by rw [g2];exact hS.size,pickE_agree g1 h2,(g5.ws hS.mem g4.holds g4.apart g6.new).pick h3 hg.2⟩
      · simp at he
    · simp at he
  · simp at he
theorem St.opsC {ops:Array Oper}{l:List Oper}(k:Nat)(hs:List Hint)(kE:List Nat)(hS:St c n E H A a w)
    (h:∀ν:Nat→Nat,Seg P n false ops ν hs (l.take k) E H kE fun E' H'=>∀a' w',St c n E' H' A a' w'→wpList P ops Q (l.drop k) a' w'):wpList P ops Q l a w:=by
  have:=hS.seg1 (rest:=l.drop k) (h _) (fun E' H' h=>h)
  rwa [List.take_append_drop]at this
theorem St.regC {id:Nat}{l:List Oper}(hs:List Hint)(kE:List Nat)(hS:St c n E H A a w)
    (h:∀ν:Nat→Nat,Seg P n false l.toArray ν hs l E H kE fun E' H'=>∀a' w',St c n E' H' A a' w'→Q .normal a' w'):(Code.region id l.toArray false).wp P Q a w:=by
  refine wp_region_lit ?_;have:=hS.seg1 (Q:=Q) (rest:=[]) (h _) (fun E' H' h=>h)
  rwa [List.append_nil]at this
theorem St.regS {id:Nat}{l:List Oper}{y:Code}(hs:List Hint)(kE:List Nat)(hS:St c n E H A a w)
    (h:∀ν:Nat→Nat,Seg P n false l.toArray ν hs l E H kE fun E' H'=>∀a' w',St c n E' H' A a' w'→y.wp P Q a' w'):((Code.region id l.toArray false).seq y).wp P Q a w:=
  wp_seq (hS.regC hs kE h)
theorem St.drawC {id:Nat}{l:List Oper}(hs:List Hint)(kE:List Nat)(hS:St c n E H A a w)(h:Seg P n true l.toArray (fun _=>0) hs l E H kE fun E' H'=>∀a' w',St c n E' H' A a' w'→Q .normal a' w')
    (hm:P.follows .mixedOrders=true:=by as_aux_lemma=>kernel_rfl) (hB:Region.lexB .any l.toArray=true:=by as_aux_lemma=>kernel_rfl):(Code.region id l.toArray true).wp P Q a w:=by
  obtain⟨pE,pH,ob,he,hq,hk⟩:=h;exact hS.quiet hs _ _ hm hB he hq.all hk
theorem St.drawS {id:Nat}{l:List Oper}{y:Code}(hs:List Hint)(kE:List Nat)(hS:St c n E H A a w)(h:Seg P n true l.toArray (fun _=>0) hs l E H kE fun E' H'=>∀a' w',St c n E' H' A a' w'→y.wp P Q a' w')
    (hm:P.follows .mixedOrders=true:=by as_aux_lemma=>kernel_rfl) (hB:Region.lexB .any l.toArray=true:=by as_aux_lemma=>kernel_rfl):((Code.region id l.toArray true).seq y).wp P Q a w:=
  wp_seq (hS.drawC hs kE h hm hB)
theorem St.stillC {id:Nat}{l:List Oper}(hs:List Hint)(kE:List Nat)(hS:St c n E H A a w)(h:Seg P n true l.toArray (fun _=>0) hs l E H kE fun E' H'=>∀a',St c n E' H' A a' w→Q .normal a' w):(Code.region id l.toArray false).wp P Q a w:=by
  obtain⟨pE,pH,ob,he,hq,hk⟩:=h;exact hS.still hs _ _ he hq.all hk
theorem St.stillS {id:Nat}{l:List Oper}{y:Code}(hs:List Hint)(kE:List Nat)(hS:St c n E H A a w)(h:Seg P n true l.toArray (fun _=>0) hs l E H kE fun E' H'=>∀a',St c n E' H' A a' w→y.wp P Q a' w):((Code.region id l.toArray false).seq y).wp P Q a w:=
  wp_seq (hS.stillC hs kE h)
class Nrm (b v:Bool) (p:outParam Prop):Prop where
  go:b=v→p
instance (priority:=low) nrmVar (b v:Bool):Nrm b v (b=v):=⟨id⟩
instance (priority:=mid) nrmDecT (p:Prop) [Decidable p]:Nrm (decide p) true p:=⟨of_decide_eq_true⟩
instance (priority:=mid) nrmDecF (p:Prop) [Decidable p]:Nrm (decide p) false (¬p):=⟨of_decide_eq_false⟩
instance nrmLt (x y:Int):Nrm (decide (x<y)) false (y≤x):=⟨fun h=>Int.not_lt.1 (of_decide_eq_false h)⟩
instance nrmLe (x y:Int):Nrm (decide (x≤y)) false (y<x):=⟨fun h=>Int.not_le.1 (of_decide_eq_false h)⟩
instance nrmEqT {α:Type} [BEq α] [LawfulBEq α] (x y:α):Nrm (x==y) true (x=y):=⟨fun h=>eq_of_beq h⟩
instance nrmEqF {α:Type} [BEq α] [LawfulBEq α] (x y:α):Nrm (x==y) false (x≠y):=⟨fun h e=>by subst e;simp at h⟩
instance nrmNeT {α:Type} [BEq α] [LawfulBEq α] (x y:α):Nrm (x !=y) true (x≠y):=⟨fun h e=>by subst e;simp at h⟩
instance nrmNeF {α:Type} [BEq α] [LawfulBEq α] (x y:α):Nrm (x !=y) false (x=y):=⟨fun h=>by simpa using h⟩
instance nrmNotT (b:Bool) (p:Prop) [h:Nrm b false p]:Nrm (!b) true p:=⟨fun e=>h.go (by simpa using e)⟩
instance nrmNotF (b:Bool) (p:Prop) [h:Nrm b true p]:Nrm (!b) false p:=⟨fun e=>h.go (by simpa using e)⟩
instance nrmAndT (a b:Bool) (p q:Prop) [h:Nrm a true p] [k:Nrm b true q]:Nrm (a&&b) true (p∧q):=⟨fun e=>by rw [Bool.and_eq_true]at e;exact⟨h.go e.1,k.go e.2⟩⟩
instance nrmAndF (a b:Bool) (p q:Prop) [h:Nrm a false p] [k:Nrm b false q]:Nrm (a&&b) false (p∨q):=⟨fun e=>by rw [Bool.and_eq_false_iff]at e;exact e.imp h.go k.go⟩
instance nrmOrT (a b:Bool) (p q:Prop) [h:Nrm a true p] [k:Nrm b true q]:Nrm (a||b) true (p∨q):=⟨fun e=>by rw [Bool.or_eq_true]at e;exact e.imp h.go k.go⟩
instance nrmOrF (a b:Bool) (p q:Prop) [h:Nrm a false p] [k:Nrm b false q]:Nrm (a||b) false (p∧q):=⟨fun e=>by rw [Bool.or_eq_false_iff]at e;exact⟨h.go e.1,k.go e.2⟩⟩
theorem nrm {b v:Bool}{p:Prop}[h:Nrm b v p] (e:b=v):p:=h.go e
theorem St.condC {t:Nat}{x y:Code}{p q:Prop}(hS:St c n E H A a w)(b:Bool)[hp:Nrm b true p] [hq:Nrm b false q] (h1:b=true→p→x.wp P Q a w)(h2:b=false→q→y.wp P Q a w)(hl:look E t=some ([],.bool b):=by as_aux_lemma=>kernel_rfl):(Code.cond (.tmp t) x y).wp P Q a w:=
  hS.cond hl (fun h=>h1 h (hp.go h)) (fun h=>h2 h (hq.go h))
theorem St.condT {t:Nat}{x y:Code}(hS:St c n E H A a w)(h1:x.wp P Q a w)(hl:look E t=some ([],.bool true):=by as_aux_lemma=>kernel_rfl):(Code.cond (.tmp t) x y).wp P Q a w:=hS.cond hl (fun _=>h1) (fun h=>nomatch h)
theorem St.condF {t:Nat}{x y:Code}(hS:St c n E H A a w)(h1:y.wp P Q a w)(hl:look E t=some ([],.bool false):=by as_aux_lemma=>kernel_rfl):(Code.cond (.tmp t) x y).wp P Q a w:=hS.cond hl (fun h=>nomatch h) (fun _=>h1)
theorem St.condK {t:Nat}{x y:Code}(hS:St c n E H A a w)(b v:Bool)(hb:b=v)(h1:(if v then x else y).wp P Q a w)(hl:look E t=some ([],.bool b):=by as_aux_lemma=>kernel_rfl):(Code.cond (.tmp t) x y).wp P Q a w:=by
  subst hb
  cases b with
  |true=>exact hS.condT h1 hl
  |false=>exact hS.condF h1 hl
theorem St.fix (hS:St c n E H A a w)(t:Nat){v:Value}(v':Value)(hv:v=v')(hl:look E t=some ([],v):=by as_aux_lemma=>kernel_rfl):St c n ((t,[],v')::E) H A a w:=by
  subst hv;refine⟨hS.defers,hS.size,fun e he=>?_,hS.mem⟩
  rcases List.mem_cons.1 he with rfl|he
  · exact hS.env _ (look_mem hl)
  · exact hS.env e he
theorem St.call0 {ops:Array Oper}{o:Oper}{rest:List Oper}(hS:St c n E H A a w)(f:FuncId)(args:Array Value){v:Value}(d:Nat)(hC:Calls P f args w fun e w'=>e=.returned v∧Fr w w' no no)
    (h:∀a' w',St c n (putE E d [] v) H A a' w'→wpList P ops Q rest a' w')
    (he:evCall P ops 0 0 E H o=some (f,args,[]):=by as_aux_lemma=>kernel_rfl) (hg:guardsOk n ops [o]=true:=by as_aux_lemma=>kernel_rfl) (hd:o.dst=some d:=by rfl) (hdn:d<n:=by decide):wpList P ops Q (o::rest) a w:=by
  refine hS.call 0 0 he trivial hg hC ?_;rintro _ w' ⟨rfl,hF⟩;refine⟨v,rfl,?_⟩;rw [hd];exact h _ _ ((hS.to (hS.mem.keep0 hF)).put hdn)
theorem St.callC {ops:Array Oper}{o:Oper}{rest:List Oper}(hS:St c n E H A a w)(f:FuncId)(args:Array Value){R:Ending→World→Prop}(hC:Calls P f args w R)
    (hk:∀e w',R e w'→∃v,e=.returned v∧wpList P ops Q rest (a.put o.dst v) w')
    (he:evCall P ops 0 0 E H o=some (f,args,[]):=by as_aux_lemma=>kernel_rfl) (hg:guardsOk n ops [o]=true:=by as_aux_lemma=>kernel_rfl):wpList P ops Q (o::rest) a w:=
  hS.call 0 0 he trivial hg hC hk
theorem St.callG {ops:Array Oper}{o:Oper}{rest:List Oper}(hS:St c n E H A a w)(x:Bool)(f:FuncId)(args:Array Value){R:Ending→World→Prop}(hC:Calls P f args w R)
    (hk:∀e w',R e w'→∃v,e=.returned v∧wpList P ops Q rest (a.put o.dst v) w')
    (he:evCall P ops 1 0 E H o=some (f,args,[Ob.sem (.t x)]):=by as_aux_lemma=>kernel_rfl) (hg:guardsOk n ops [o]=true:=by as_aux_lemma=>kernel_rfl):wpList P ops Q (o::rest) a w:=
  hS.call 1 0 he ⟨rfl,trivial⟩ hg hC hk
theorem St.retC {fn:Func}{R:Ending→World→Prop}(h:Nat)(hS:St c n E H A a w)(v:Value)(ob:List Ob)(hq:obQ ob)(hR:WS c H A w→R (.returned v) w)(he:evRes P fn h E H=some (v,obP ob):=by as_aux_lemma=>kernel_rfl)(hds:c.ds=[]:=by rfl):bodyPost P fn R .ret a w:=hS.ret h he hq.all hR hds
theorem St.fallC {fn:Func}{R:Ending→World→Prop}(h:Nat)(hS:St c n E H A a w)(v:Value)(ob:List Ob)(hq:obQ ob)(hR:WS c H A w→R (.returned v) w)(he:evRes P fn h E H=some (v,obP ob):=by as_aux_lemma=>kernel_rfl)(hds:c.ds=[]:=by rfl):bodyPost P fn R .normal a w:=hS.fall h he hq.all hR hds
theorem WS.get (h:WS c H A w)(i:Nat)(b:Nat)(x:HE)(hi:H[i]? =some (b,x):=by as_aux_lemma=>kernel_rfl):x.holds w b:=h.heap _ (List.mem_of_getElem? hi)
theorem WS.getm (h:WS c H A w)(i:Nat)(b:Nat)(x:HE)(hi:H[i]? =some (b,x):=by as_aux_lemma=>kernel_rfl)(hx:x.own=true:=by rfl):c.w0.heap.size≤b∨c.D b:=h.mine _ (List.mem_of_getElem? hi) hx
end
theorem zf6 {x:Int}(h: -9223372036854775808≤x∧x≤9223372036854775807):fit .i64 x:=i64_in h
theorem fit_u64 {x:Int}(h:0≤x∧x≤18446744073709551615):fit .u64 x:=u64_in h
theorem fit_u8 {x:Int}(h:0≤x∧x≤255):fit .u8 x:=u8_in h
theorem quo2 {x d:Int}(h0:0≤x)(h1:x≤9223372036854775807)(hd:1≤d):d≠0∧IntKind.i64.wrap (Int.tdiv x d)=x/d:=⟨by omega,quo_in h0 h1 hd⟩
theorem rem2 {x d:Int}(h0:0≤x)(hd:1≤d):d≠0∧Int.tmod x d=x%d:=⟨by omega,rem_in h0⟩
abbrev vi (x:Int):Value:=.int .i64 x
abbrev vu (x:Int):Value:=.int .u64 x
abbrev v8 (x:Int):Value:=.int .u8 x
abbrev vb (x:Bool):Value:=.bool x
abbrev pt (b o:Nat):Value:=.pointer (some ⟨b,o,none⟩)
abbrev sc (b o n c:Nat):Value:=.slice (some ⟨b,o,none⟩) n c
abbrev vnil:Value:=.slice none 0 0
abbrev pnil:Value:=.pointer none
def AllF (w:World):Heap→Prop
  |[]=>True
  |e::l=>(e.2.own=false∧e.2.holds w e.1)∧AllF w l
theorem AllF.mem {w:World} :∀ {H:Heap},AllF w H→∀e∈H,e.2.own=false∧e.2.holds w e.1
  |[],_,_,he=>nomatch he
  |x::l,h,e,he=>by
    rcases List.mem_cons.1 he with rfl|he
    · exact h.1
    · exact AllF.mem h.2 e he
def AllN (D:Nat→Prop):Heap→Prop
  |[]=>True
  |e::l=>¬D e.1∧AllN D l
theorem AllN.mem {D:Nat→Prop} :∀ {H:Heap},AllN D H→∀e∈H,¬D e.1
  |[],_,_,he=>nomatch he
  |x::l,h,e,he=>by
    rcases List.mem_cons.1 he with rfl|he
    · exact h.1
    · exact AllN.mem h.2 e he
theorem AllF.apart {w:World}{H:Heap}(h:AllF w H):H.Pairwise apartP:=by
  refine pairwise_of_get fun i j p q hij hp hq ho=>?_;have h1:=(h.mem p (List.mem_of_getElem? hp)).1;have h2:=(h.mem q (List.mem_of_getElem? hq)).1;rw [h1,h2]at ho
  simp at ho
theorem WS.startL {w:World}{H:Heap}{D:Nat→Prop}(h:AllF w H):WS ⟨w,D,[]⟩ H [] w:=
  ⟨fun e he=>(h.mem e he).2,h.apart,fun e he ho=>(by rw [(h.mem e he).1]at ho;cases ho),fun e he hf=>hf,AllAr.nil w,(Fr.refl w D).to (fun k hk=>.inl hk) (fun k hk=>hk.elim)⟩
theorem WS.startA {w:World}{H:Heap}{r:Res}(hr:r.R w)(h:AllF w H)(hn:AllN r.F H):WS ⟨w,r.F,[]⟩ H [r] w:=
  ⟨fun e he=>(h.mem e he).2,h.apart,fun e he ho=>(by rw [(h.mem e he).1]at ho;cases ho),fun e he hf=>hf.elim (hn.mem e he) id,AllAr.one hr,(Fr.refl w r.F).to (fun k hk=>.inl hk) (fun k hk=>.inl (hk.elim id (fun h=>h.elim)))⟩
theorem startM_apart {w:World}{H:Heap}{s:Nat}{y:HE}(h:AllF w H)(hn:AllN (one s) H):(H++[(s,y)]).Pairwise apartP:=by
  rw [List.pairwise_append];refine⟨h.apart,List.pairwise_singleton _ _,fun p hp q hq ho e=>?_⟩;obtain rfl:=List.mem_singleton.1 hq;exact hn.mem p hp e
theorem WS.startM {w:World}{H:Heap}{s:Nat}{y:HE}(hs:y.holds w s)(h:AllF w H)(hn:AllN (one s) H):WS ⟨w,one s,[]⟩ (H++[(s,y)]) [] w:=by
  refine⟨fun e he=>?_,startM_apart h hn,fun e he ho=>?_,fun e he hf=>hf,AllAr.nil w,(Fr.refl w _).to (fun k hk=>.inl hk) (fun k hk=>hk.elim)⟩
  · rcases List.mem_append.1 he with he|he
    · exact(h.mem e he).2
    · obtain rfl:=List.mem_singleton.1 he;exact hs
  · rcases List.mem_append.1 he with he|he
    · rw [(h.mem e he).1]at ho;cases ho
    · obtain rfl:=List.mem_singleton.1 he;exact .inr rfl
theorem WS.startAM {w:World}{H:Heap}{r:Res}{s:Nat}{y:HE}(hr:r.R w)(hs:y.holds w s)(h:AllF w H)(hn:AllN (one s) H)(hf:AllN r.F H)(hsf:¬r.F s):WS ⟨w,orF r.F (one s),[]⟩ (H++[(s,y)]) [r] w:=by
  refine⟨fun e he=>?_,startM_apart h hn,fun e he ho=>?_,fun e he hk=>?_,AllAr.one hr,(Fr.refl w _).to (fun k hk=>.inl hk) (fun k hk=>.inl (hk.elim .inl (fun h=>h.elim)))⟩
  · rcases List.mem_append.1 he with he|he
    · exact(h.mem e he).2
    · obtain rfl:=List.mem_singleton.1 he;exact hs
  · rcases List.mem_append.1 he with he|he
    · rw [(h.mem e he).1]at ho;cases ho
    · obtain rfl:=List.mem_singleton.1 he;exact .inr (.inr rfl)
  · rcases hk with hk|hk
    · rcases List.mem_append.1 he with he|he
      · exact hf.mem e he hk
      · obtain rfl:=List.mem_singleton.1 he;exact hsf hk
    · exact hk
section
variable {P:Program}{c:Cx}{n:Nat}{E:Env}{H:Heap}{A:List Res}{a:Act}{w:World}{Q:Exit→Act→World→Prop}
theorem fst_get {H:Heap}{i g:Nat}(hi:(H[i]?).map (·.1)=some g):∃x,H[i]? =some (g,x):=by
  cases h:H[i]? with
  |none=>rw [h]at hi;cases hi
  |some e=>rw [h]at hi;obtain rfl:=Option.some.inj hi;exact⟨e.2,rfl⟩
theorem own_get {H:Heap}{i g:Nat}(hi:(H[i]?).map (fun e=>(e.1,e.2.own))=some (g,true)):∃x,H[i]? =some (g,x)∧x.own=true:=by
  cases h:H[i]? with
  |none=>rw [h]at hi;cases hi
  |some e=>
    rw [h]at hi;have:=Option.some.inj hi
    simp only [Prod.mk.injEq]at this
    exact⟨e.2,by rw [←this.1],this.2⟩
theorem WS.nF (h:WS c H A w)(i j:Nat){g:Nat}{r:Res}(hi:(H[i]?).map (·.1)=some g:=by as_aux_lemma=>kernel_rfl)(hj:A[j]? =some r:=by rfl):¬r.F g:=fun hk=>by
  obtain⟨x,hx⟩:=fst_get hi;exact h.free _ (List.mem_of_getElem? hx) (inF_at hj hk)
theorem WS.neq (h:WS c H A w)(i j:Nat){g s:Nat}(hi:(H[i]?).map (·.1)=some g:=by as_aux_lemma=>kernel_rfl)(hj:(H[j]?).map (fun e=>(e.1,e.2.own))=some (s,true):=by as_aux_lemma=>kernel_rfl)(hij:i≠j:=by decide):¬K.one s g:=fun e=>by
  obtain⟨x,hx⟩:=fst_get hi;obtain⟨y,hy,ho⟩:=own_get hj;exact pairwise_get h.apart hij hx hy (.inr ho) e
theorem WS.nq (h:WS c H A w)(i j:Nat)(g s:Nat)(hi:(H[i]?).map (·.1)=some g:=by as_aux_lemma=>kernel_rfl)(hj:(H[j]?).map (fun e=>(e.1,e.2.own))=some (s,true):=by as_aux_lemma=>kernel_rfl)(hij:i≠j:=by decide):g≠s:=h.neq i j hi hj hij
theorem WS.res (h:WS c H A w){r:Res}(i:Nat)(hi:A[i]? =some r:=by rfl):r.R w:=h.ars.each _ (List.mem_of_getElem? hi)
theorem Res.keep {r:Res}{w w':World}{D':Nat→Prop}(h:r.R w)(hf:Fr w w' no D'):r.R w':=r.cg _ _ h fun k hk=>hf.block k (r.lt _ h _ hk) (fun h=>h)
structure LSt where
  E:Env
  H:Heap
  A:List Res
  I:Prop
  m:Nat
def slots:Env→List Nat
  |[]=>[]
  |e::l=>e.1::slots l
theorem St.env' {E':Env}(hS:St c n E H A a w)(he:pickE E (slots E')=some E'):St c n E' H A a w:=⟨hS.defers,hS.size,pickE_agree hS.env he,hS.mem⟩
theorem St.loopC {σ:Type}{body:Code}(L:σ→LSt)(x0:σ)(h0:(L x0).I)(hS:St c n E H A a w)
    (round:∀x,(L x).I→∀a w,St c n (L x).E (L x).H (L x).A a w→body.wp P (Exit.then (fun a' w'=>∃x',(L x').I∧(L x').m<(L x).m∧St c n (L x').E (L x').H (L x').A a' w') Q) a w)
    (he:pickE E (slots (L x0).E)=some (L x0).E:=by as_aux_lemma=>kernel_rfl) (hh:H=(L x0).H:=by as_aux_lemma=>kernel_rfl) (ha:A=(L x0).A:=by rfl):(Code.loop body).wp P Q a w:=by
  subst hh;subst ha;exact(hS.env' he).loop (fun x=>(L x).E) (fun x=>(L x).H) (fun x=>(L x).A) (fun x=>(L x).I) (fun x=>(L x).m) x0 h0 round
theorem St.next {σ:Type}{L:σ→LSt}{k:Nat}(x':σ)(hI:(L x').I)(hm:(L x').m<k)(hS:St c n E H A a w)(he:pickE E (slots (L x').E)=some (L x').E:=by as_aux_lemma=>kernel_rfl)(hh:H=(L x').H:=by as_aux_lemma=>kernel_rfl)(ha:A=(L x').A:=by rfl):
    ∃x',(L x').I∧(L x').m<k∧St c n (L x').E (L x').H (L x').A a w:=by
  subst hh;subst ha;exact⟨x',hI,hm,hS.env' he⟩
theorem St.meetC {σ:Type}{x y:Code}(L:σ→LSt)(h1:x.wp P (Exit.then (fun a' w'=>∃z,(L z).I∧(L z).m<1∧St c n (L z).E (L z).H (L z).A a' w') Q) a w)
    (h2:∀z,(L z).I→∀a w,St c n (L z).E (L z).H (L z).A a w→y.wp P Q a w):(x.seq y).wp P Q a w:=
  St.meet (fun x=>(L x).E) (fun x=>(L x).H) (fun x=>(L x).A) (fun x=>(L x).I) (wp_mono h1 (fun e a' w' hq=>by
    cases e with
    |normal=>obtain⟨z,h1,h2,h3⟩:=hq;exact⟨z,h1,h3⟩
    |_=>exact hq)) h2
theorem WS.tellR (h:WS c H A w)(i:Nat){b:Nat}{e:TypeId}{m tot:Nat}{f:Nat→Value}(g:Nat→Value)(hg:∀o,o<m→g o=f o)(hi:H[i]? =some (b,.row e m tot f):=by as_aux_lemma=>kernel_rfl):WS c (H.set i (b,.row e m tot g)) A w:=h.refn hi hg rfl
end
section
variable {P:Program}{ops:Array Oper}{V:World→Prop}{Q:Exit→Act→World→Prop}
def nOp (P:Program)(o:Oper)(a:Act)(w:World)(K:Act→World→Prop):Prop:=
  match(execOp a.eval o).run P w with
  | .ok (.value v) w'=>K (a.put o.dst v) w'
  | .ok .skip w'=>K (a.put o.dst undef) w'
  | .ok (.enter f args) w'=>Calls P f args w' fun e w''=>∃v,e=.returned v∧K (a.put o.dst v) w''
  |_=>False
def nAt (P:Program)(ops:Array Oper)(i:Nat)(K:Act→World→Prop)(a:Act)(w:World):Prop:=
  match ops[i]? with
  |none=>False
  |some o=>if Region.wanted o (yielded ops a.tmps)then nOp P o a w K else K (a.put o.dst undef) w
theorem nOp_mono {o:Oper}{a:Act}{w:World}{K K':Act→World→Prop}(h:∀a w,K a w→K' a w)(hh:nOp P o a w K):nOp P o a w K':=by
  unfold nOp at*
  generalize (execOp a.eval o).run P w=r at*
  cases r with
  |ok n w'=>
    cases n<;>simp only at hh⊢
    case value u=>exact h _ _ hh
    case skip=>exact h _ _ hh
    case enter f args=>exact hh.mono fun e w'' ⟨v,h1,h2⟩=>⟨v,h1,h _ _ h2⟩
  |halt x w'=>exact hh
theorem nAt_mono {i:Nat}{a:Act}{w:World}{K K':Act→World→Prop}(h:∀a w,K a w→K' a w)(hh:nAt P ops i K a w):nAt P ops i K' a w:=by
  unfold nAt at*
  split
  · rename_i ho;simp only [ho]at hh
  · rename_i o ho
    simp only [ho]at hh
    split
    · rename_i hw;simp only [hw,if_true]at hh;exact nOp_mono h hh
    · rename_i hw;simp only [hw]at hh;exact h _ _ hh
theorem wp_of_nOp {o:Oper}{a:Act}{w:World}{K:Act→World→Prop}(hh:nOp P o a w K):o.wp P a w K Q:=by
  unfold nOp at hh
  unfold Oper.wp
  generalize (execOp a.eval o).run P w=r at*
  cases r with
  |ok n w'=>
    cases n<;>simp only at hh<;>simp only [Oper.upon]
    case value u=>exact hh
    case skip=>exact hh
    case enter f args=>exact hh.mono fun e w'' ⟨v,h1,h2⟩=>by subst h1;exact h2
  |halt x w'=>exact hh.elim
theorem wpOp_of_nAt {i:Nat}{a:Act}{w:World}{K:Act→World→Prop}(hh:nAt P ops i K a w):wpOp P ops Q i K a w:=by
  unfold nAt at hh
  unfold wpOp
  split
  · rename_i ho;simp only [ho]at hh
  · rename_i o ho
    simp only [ho]at hh
    split
    · rename_i hw;simp only [hw,if_true]at hh;exact .inl (wp_of_nOp hh)
    · rename_i hw;simp only [hw]at hh;exact hh
def anyV (P:Program)(md:Region.Mode)(ops:Array Oper)(V:World→Prop)(Vf:Nat→Bool)(Q:Act→World→Prop):Nat→Array Bool→Act→World→Prop
  |0,listed,a,w=>Region.ready md ops listed=[]∧Q a w
  |f+1,listed,a,w=>(Region.ready md ops listed=[]→Q a w)∧∀i∈Region.ready md ops listed,nAt P ops i (fun a' w'=>(Vf i=true→V w')∧anyV P md ops V Vf Q f (listed.setIfInBounds i true) a' w') a w
theorem wpAny_of_anyV {md:Region.Mode}{Vf:Nat→Bool}{R:Act→World→Prop}(hQ:∀a w,R a w→Q .normal a w):∀(f:Nat) (listed:Array Bool) (a:Act) (w:World),anyV P md ops V Vf R f listed a w→wpAny P md ops Q f listed a w
  |0,_,_,_,h=>⟨h.1,hQ _ _ h.2⟩
  |f+1,_,_,_,h=>⟨fun h0=>hQ _ _ (h.1 h0),fun i hi=>wpOp_of_nAt (nAt_mono (fun a' w' hh=>wpAny_of_anyV hQ f _ a' w' hh.2) (h.2 i hi))⟩
def Tells (P:Program)(ops:Array Oper)(V:World→Prop)(o:Oper)(v:Value)(a:Act):Prop:=
  (Region.wanted o (yielded ops a.tmps)=true∧∀w,V w→(execOp a.eval o).run P w=.ok (.value v) w∨((execOp a.eval o).run P w=.ok .skip w∧v=undef))∨(Region.wanted o (yielded ops a.tmps)=false∧v=undef)
theorem Tells.at {i:Nat}{o:Oper}{v:Value}{a:Act}{w:World}(hi:ops[i]? =some o)(hy:Tells P ops V o v a)(hV:V w){K:Act→World→Prop}(h:K (a.put o.dst v) w):nAt P ops i K a w:=by
  unfold nAt
  simp only [hi]
  rcases hy with⟨hw,hr⟩|⟨hw,rfl⟩
  · rw [if_pos hw]
    unfold nOp
    rcases hr w hV with e|⟨e,rfl⟩
    · rw [e];exact h
    · rw [e];exact h
  · rw [if_neg (by rw [hw];simp)];exact h
theorem nAt_put {j:Nat}{oi oj:Oper}{v:Value}(hj:ops[j]? =some oj)(hap:oi.apart ops oj=true)(hsi:∀cs b,oi.op≠.select cs b)(hsj:∀cs b,oj.op≠.select cs b){K:Act→World→Prop}{a:Act}{w:World}
    (hy:Tells P ops V oi v a) (h:nAt P ops j K (a.put oi.dst v) w):nAt P ops j (fun a' w'=>Tells P ops V oi v a'∧K (a'.put oi.dst v) w') a w:=by
  obtain⟨h1,h2,h3⟩:=Oper.apart_spec hap
  have keep:∀u,Tells P ops V oi v (a.put oj.dst u):=fun u=>by
    unfold Tells at*
    rw [execOp_put oi hsi a oj.dst u h3,wanted_put oi a oj.dst u h3];exact hy
  unfold nAt at*
  simp only [hj]at*
  rw [wanted_put oj a oi.dst v h1]at h
  split
  · rename_i hw
    simp only [hw,if_true]at h
    unfold nOp at*
    rw [execOp_put oj hsj a oi.dst v h1]at h
    generalize (execOp a.eval oj).run P w=r at*
    cases r with
    |ok n w'=>
      cases n<;>simp only at h⊢
      case value u=>exact⟨keep u,by rw [←Act.put_comm a v u h2];exact h⟩
      case skip=>exact⟨keep _,by rw [←Act.put_comm a v undef h2];exact h⟩
      case enter f args=>exact h.mono fun e w'' ⟨u,e1,e2⟩=>⟨u,e1,keep u,by rw [←Act.put_comm a v u h2];exact e2⟩
    |halt x w'=>exact h
  · rename_i hw
    simp only [hw]at h
    exact⟨keep _,by rw [←Act.put_comm a v undef h2];exact h⟩
theorem anyV_first {md:Region.Mode}{Vf:Nat→Bool}{R:Act→World→Prop}{i:Nat}{oi:Oper}{v:Value}(hi:ops[i]? =some oi)(hvf:∀j oj,ops[j]? =some oj→Vf j=false→∃e∈oj.after,Region.binds md e=true∧e.on=i)(hsel:∀(j:Nat) (o:Oper) cs b,ops[j]? =some o→o.op≠.select cs b):
    ∀(f:Nat) (listed:Array Bool) (a:Act) (w:World),
      (∀j oj,ops[j]? =some oj→j≠i→listed.getD j true=false→(∀e∈oj.after,Region.binds md e=true→e.on≠i)→oi.apart ops oj=true)→
      i∈Region.ready md ops listed→Tells P ops V oi v a→V w→anyV P md ops V Vf R f (listed.setIfInBounds i true) (a.put oi.dst v) w→anyV P md ops V Vf R (f+1) listed a w:=by
  intro f
  induction f with
  |zero=>
    intro listed a w _ hr hy hV H;refine⟨fun h=>(by rw [h]at hr;cases hr),fun j hj=>?_⟩
    by_cases hji:j=i
    · subst hji;exact hy.at hi hV ⟨fun _=>hV,H⟩
    · have:=ready_mono hj hji
      rw [H.1]at this
      cases this
  |succ f ih=>
    intro listed a w hfree hr hy hV H;refine⟨fun h=>(by rw [h]at hr;cases hr),fun j hj=>?_⟩
    by_cases hji:j=i
    · subst hji;exact hy.at hi hV ⟨fun _=>hV,H⟩
    · have h1:=H.2 j (ready_mono hj hji)
      obtain⟨hjun,oj,hoj,hall⟩:=mem_ready.1 hj
      have hnot:∀e∈oj.after,Region.binds md e=true→e.on≠i:=fun e he hb heq=>by
        have h1:=hall e he hb;have h0:=(mem_ready.1 hr).1;rw [heq]at h1
        rcases Nat.lt_or_ge i listed.size with h'|h'
        · simp [h']at h0 h1;rw [h0]at h1;cases h1
        · simp [Array.getElem?_eq_none h']at h1
      have h2:=nAt_put hoj (hfree j oj hoj hji hjun hnot) (fun cs b=>hsel i oi cs b hi) (fun cs b=>hsel j oj cs b hoj) hy h1
      have hfree':∀k ok,ops[k]? =some ok→k≠i→(listed.setIfInBounds j true).getD k true=false→
          (∀e∈ok.after,Region.binds md e=true→e.on≠i)→oi.apart ops ok=true:=fun k ok hk hki hun hno=>by
        refine hfree k ok hk hki ?_ hno
        by_cases hjk:j=k
        · subst hjk;exact hjun
        · rw [getD_set_ne true hjk]at hun;exact hun
      refine nAt_mono (fun a' w' h3=>?_) h2;have hr':=ready_mono hr (Ne.symm hji)
      have h4:V w':=by
        cases hv:Vf j with
        |true=>exact h3.2.1 hv
        |false=>obtain⟨e,e1,e2,e3⟩:=hvf j oj hoj hv;exact absurd e3 (hnot e e1 e2)
      refine⟨fun _=>h4,ih (listed.setIfInBounds j true) a' w' hfree' hr' h3.1 h4 ?_⟩;rw [Array.setIfInBounds_comm _ _ hji];exact h3.2.2
def wpOrd (P:Program)(ops:Array Oper)(V:World→Prop)(R:Act→World→Prop):List (Nat×Nat)→Act→World→Prop
  |[],a,w=>R a w
  |(i,1)::r,a,w=>∃o v,ops[i]? =some o∧Tells P ops V o v a∧wpOrd P ops V R r (a.put o.dst v) w
  |(i,0)::r,a,w=>nAt P ops i (fun a' w'=>V w'∧wpOrd P ops V R r a' w') a w
  |(i,_)::r,a,w=>nAt P ops i (fun a' w'=>wpOrd P ops V R r a' w') a w
def onlyB (i:Nat):List Nat→Bool
  |[j]=>Nat.beq j i
  |_=>false
def flB:List (Nat×Nat)→List Nat
  |[]=>[]
  |p::l=>match Nat.beq p.2 1 with
    |true=>p.1::flB l
    |false=>flB l
def ordFrom (md:Region.Mode)(ops:Array Oper):List (Nat×Nat)→Array Bool→Bool
  |[],listed=>(Region.ready md ops listed).isEmpty
  |(i,1)::r,listed=>(Region.ready md ops listed).contains i&&Region.free md ops listed i&&ordFrom md ops r (listed.setIfInBounds i true)
  |(i,0)::r,listed=>onlyB i (Region.ready md ops listed)&&ordFrom md ops r (listed.setIfInBounds i true)
  |(i,2)::r,listed=>onlyB i (Region.ready md ops listed)&&(flB r).isEmpty&&ordFrom md ops r (listed.setIfInBounds i true)
  |_,_=>false
def vfOf:List (Nat×Nat)→Nat→Bool
  |[],_=>true
  |p::l,j=>match Nat.beq p.1 j&&Nat.beq p.2 2 with
    |true=>false
    |false=>vfOf l j
def lastB (md:Region.Mode)(ops:Array Oper)(r:List (Nat×Nat)):Bool:=
  (List.range ops.size).all fun j=>vfOf r j||(flB r).all fun f=>match ops[j]? with
    |some oj=>oj.after.any fun e=>Region.binds md e&&e.on==f
    |none=>false
def ordB (md:Region.Mode)(ops:Array Oper)(r:List (Nat×Nat)):Bool:=Region.noSelect ops&&Nat.beq r.length ops.size&&ordFrom md ops r (Array.replicate ops.size false)&&lastB md ops r
theorem onlyB_eq {i:Nat}{l:List Nat}(h:onlyB i l=true):l=[i]:=by
  unfold onlyB at h
  split at h
  · rename_i j;rw [Nat.eq_of_beq_eq_true h]
  · cases h
theorem lastB_spec {md:Region.Mode}{r:List (Nat×Nat)}(h:lastB md ops r=true){f:Nat}(hf:f∈flB r)(j:Nat)(oj:Oper)(hj:ops[j]? =some oj)(hv:vfOf r j=false):∃e∈oj.after,Region.binds md e=true∧e.on=f:=by
  have h1:=List.all_eq_true.1 h j (List.mem_range.2 (Array.getElem?_eq_some_iff.1 hj).1);rw [hv,Bool.false_or]at h1;have h2:=List.all_eq_true.1 h1 f hf
  simp only [hj]at h2
  obtain⟨e,he,hb⟩:=Array.any_eq_true'.1 h2
  simp only [Bool.and_eq_true,beq_iff_eq]at hb
  exact⟨e,he,hb.1,hb.2⟩
theorem vfOf_last {r:List (Nat×Nat)}{i:Nat}(h:(i,2)∈r):vfOf r i=false:=by
  induction r with
  |nil=>cases h
  |cons p l ih=>
    simp only [vfOf]
    split
    · rfl
    · rename_i hp
      rcases List.mem_cons.1 h with e|h
      · subst e;simp at hp
      · exact ih h
theorem mem_flB {r:List (Nat×Nat)}{i:Nat}(h:(i,1)∈r):i∈flB r:=by
  induction r with
  |nil=>cases h
  |cons p l ih=>
    rcases List.mem_cons.1 h with e|h
    · subst e;simp [flB]
    · simp only [flB]
      split
      · exact List.mem_cons_of_mem _ (ih h)
      · exact ih h
theorem anyV_ord {md:Region.Mode}{R:Act→World→Prop}(hs:Region.noSelect ops=true)(r0:List (Nat×Nat))(hl:lastB md ops r0=true):∀(r:List (Nat×Nat)) (listed:Array Bool) (a:Act) (w:World),(∀p∈r,p∈r0)→ordFrom md ops r listed=true→(flB r≠[]→V w)→wpOrd P ops V R r a w→anyV P md ops V (vfOf r0) R r.length listed a w
  |[],listed,a,w,_,hB,_,h=>⟨by simpa [ordFrom]using hB,h⟩
  |(i,0)::r,listed,a,w,hm,hB,hV,h=>by
    simp only [ordFrom,Bool.and_eq_true]at hB
    have e:=onlyB_eq hB.1;refine⟨fun h0=>(by rw [e]at h0;cases h0),fun j hj=>?_⟩;rw [e]at hj;obtain rfl:=List.mem_singleton.1 hj;exact nAt_mono (fun a' w' hh=>⟨fun _=>hh.1,anyV_ord hs r0 hl r _ a' w' (fun p hp=>hm p (List.mem_cons_of_mem _ hp)) hB.2 (fun _=>hh.1) hh.2⟩) h
  |(i,1)::r,listed,a,w,hm,hB,hV,h=>by
    simp only [ordFrom,Bool.and_eq_true]at hB
    obtain⟨⟨hr,hf⟩,hB'⟩:=hB;obtain⟨o,v,ho,ht,hk⟩:=h;have hV':V w:=hV (by simp [flB]);exact anyV_first ho (fun j oj hj hv=>lastB_spec hl (mem_flB (hm _ List.mem_cons_self)) j oj hj hv) (Region.noSelect_spec hs) r.length listed a w (Region.free_spec ho hf) (by simpa using hr) ht hV' (anyV_ord hs r0 hl r _ _ _ (fun p hp=>hm p (List.mem_cons_of_mem _ hp)) hB' (fun _=>hV') hk)
  |(i,2)::r,listed,a,w,hm,hB,hV,h=>by
    simp only [ordFrom,Bool.and_eq_true,List.isEmpty_iff]at hB
    obtain⟨⟨h1,h2⟩,h3⟩:=hB;have e:=onlyB_eq h1;refine⟨fun h0=>(by rw [e]at h0;cases h0),fun j hj=>?_⟩;rw [e]at hj;obtain rfl:=List.mem_singleton.1 hj;exact nAt_mono (fun a' w' hh=>⟨fun hv=>(by rw [vfOf_last (hm _ List.mem_cons_self)]at hv;cases hv),anyV_ord hs r0 hl r _ a' w' (fun p hp=>hm p (List.mem_cons_of_mem _ hp)) h3 (fun hne=>absurd h2 hne) hh⟩) h
  |(i,k+3)::r,listed,a,w,hm,hB,hV,h=>by simp [ordFrom]at hB
theorem wp_region_ord {id:Nat}{a:Act}{w:World}(r:List (Nat×Nat))(hm:P.follows .mixedOrders=true)(hB:ordB .any ops r=true)(hV:V { w with drawn:=w.drawn+1 })
    (h:wpOrd P ops V (fun a' w'=>Q .normal a' w') r a { w with drawn:=w.drawn+1 }):(Code.region id ops true).wp P Q a w:=by
  simp only [ordB,Bool.and_eq_true]at hB
  have hl:=Nat.eq_of_beq_eq_true hB.1.1.2;refine wp_region_any hm (wpAny_of_anyV (V:=V) (Vf:=vfOf r) (R:=fun a' w'=>Q .normal a' w') (fun _ _ h=>h) _ _ _ _ ?_);have:=anyV_ord (V:=V) (P:=P) (R:=fun a' w'=>Q .normal a' w') hB.1.1.1 r hB.2 r _ a _ (fun p hp=>hp) hB.1.2 (fun _=>hV) h;rw [hl]at this;exact this
variable {c:Cx}{n:Nat}{E:Env}{H Hf:Heap}{A:List Res}{a:Act}{w:World}{R:Act→World→Prop}
def Stay (Hf:Heap)(w:World):Prop:=∀e∈Hf,e.2.holds w e.1
theorem WS.stay {l:List Nat}(h:WS c H A w)(hp:pickH H l=some Hf):Stay Hf w:=fun e he=>h.heap e (pickH_mem hp e he)
theorem St.ordBegin {id:Nat}{l:List Oper}(r:List (Nat×Nat))(Hf:Heap)(p:List Nat)(hS:St c n E H A a w)(h:∀w1,St c n E H A a w1→wpOrd P l.toArray (Stay Hf) (fun a' w'=>Q .normal a' w') r a w1)
    (hp:pickH H p=some Hf:=by as_aux_lemma=>kernel_rfl) (hm:P.follows .mixedOrders=true:=by as_aux_lemma=>kernel_rfl) (hB:ordB .any l.toArray r=true:=by as_aux_lemma=>kernel_rfl):(Code.region id l.toArray true).wp P Q a w:=
  wp_region_ord r hm hB (hS.mem.drew.stay hp) (h _ (hS.to hS.mem.drew))
theorem St.ordBeginS {id:Nat}{l:List Oper}{y:Code}(r:List (Nat×Nat))(Hf:Heap)(p:List Nat)(hS:St c n E H A a w)(h:∀w1,St c n E H A a w1→wpOrd P l.toArray (Stay Hf) (fun a' w'=>y.wp P Q a' w') r a w1)
    (hp:pickH H p=some Hf:=by as_aux_lemma=>kernel_rfl) (hm:P.follows .mixedOrders=true:=by as_aux_lemma=>kernel_rfl) (hB:ordB .any l.toArray r=true:=by as_aux_lemma=>kernel_rfl):((Code.region id l.toArray true).seq y).wp P Q a w:=
  wp_seq (St.ordBegin r Hf p hS h hp hm hB)
def opsAt (ops:Array Oper):List Nat→Option (List Oper)
  |[]=>some []
  |i::l=>match ops[i]?,opsAt ops l with
    |some o,some l'=>some (o::l')
    |_,_=>none
def marks:List Nat→List (Nat×Nat)
  |[]=>[]
  |i::l=>(i,1)::marks l
theorem ordF_go {ν:Nat→Nat}(hF:∀w',Stay Hf w'→Fine (fun j=>w'.heap.size+j) ⟨Hf,0,[]⟩ w'):∀(is:List Nat) (hs:List Hint) (l:List Oper) (E E':Env) (s s':LS) (rest:List (Nat×Nat)) (a:Act) (w:World),opsAt ops is=some l→evOps P n true ops ν hs l E s=some (E',s')→s.heap=Hf→s.k=0→guardsOk n ops l=true→Agree E a→n≤a.tmps.size→AllP s'.ob→
    (∀a',Agree E' a'→a'.tmps.size=a.tmps.size→a'.defers=a.defers→wpOrd P ops (Stay Hf) R rest a' w)→wpOrd P ops (Stay Hf) R (marks is++rest) a w
  |[],hs,l,E,E',s,s',rest,a,w,ho,he,_,_,hg,hE,hsz,hob,K=>by
    simp only [opsAt,Option.some.injEq]at ho
    subst ho
    cases hs with
    |nil=>
      simp only [evOps,Option.some.injEq,Prod.mk.injEq]at he
      obtain⟨rfl,rfl⟩:=he;exact K a hE rfl rfl
    |cons _ _=>simp [evOps]at he
  |i::is,hs,l,E,E',s,s',rest,a,w,ho,he,hh,hk,hg,hE,hsz,hob,K=>by
    simp only [opsAt]at ho
    split at ho
    · rename_i o l' h1 h2
      obtain rfl:=Option.some.inj ho
      cases hs with
      |nil=>simp [evOps]at he
      |cons hn hs=>
        simp only [evOps]at he
        split at he
        · rename_i E1 s1 e1
          simp only [guardsOk,Bool.and_eq_true]at hg
          have hg1:∀d want,guardSlot ops o=some (d,want)→d<n:=by
            intro d want hd;have:=hg.1;rw [hd]at this
            simpa using this
          have hob1:AllP s1.ob:=by
            obtain⟨l',e⟩:=evOps_obs _ _ _ _ _ _ he;rw [e]at hob;exact(allP_append hob).2
          obtain⟨k1,k2⟩:=evOp_still e1
          have next:∀v,Agree E1 (a.put o.dst v)→wpOrd P ops (Stay Hf) R (marks is++rest) (a.put o.dst v) w:=fun v hA=>
            ordF_go (ν:=ν) hF is hs l' E1 E' s1 s' rest (a.put o.dst v) w h2 he (k1.trans hh) (k2.trans hk) hg.2 hA (by rw [put_size];exact hsz) hob fun a' q1 q2 q3=>K a' q1 (q2.trans (put_size _ _ _)) (q3.trans (put_defers _ _ _))
          show wpOrd P ops (Stay Hf) R ((i,1)::(marks is++rest)) a w
          rcases evOp_q e1 hE hg1 hsz hob1 with⟨hw,r,hA,hrun⟩|⟨hw,hA⟩
          · refine⟨o,r.getD undef,h1,.inl ⟨hw,fun w' hV=>?_⟩,next _ hA⟩
            have:=hrun w' (by
              have:=hF w' hV
              exact⟨by rw [hh];exact this.holds,by rw [hh];exact this.apart,by rw [hk];exact this.name⟩)
            cases r with
            |none=>exact .inr ⟨this,rfl⟩
            |some v=>exact .inl this
          · exact⟨o,undef,h1,.inr ⟨hw,rfl⟩,next _ hA⟩
        · simp at he
    · simp at ho
def SegF (P:Program)(n:Nat)(ops:Array Oper)(hs:List Hint)(is:List Nat)(E:Env)(Hf:Heap)(kE:List Nat)(K:Env→Prop):Prop:=
  ∃(pE:List (Nat×Value)) (ob:List Ob) (l:List Oper),opsAt ops is=some l∧evSeg P n true ops (fun _=>0) hs l E Hf (sk pE kE) []=some (selE pE E kE,[],obP ob)∧obQ ob∧K (selE pE E kE)
def segFB (P:Program)(n:Nat)(ops:Array Oper)(hs:List Hint)(is:List Nat)(E:Env)(Hf:Heap)(kE:List Nat):Option (Env×Heap×List Prop):=
  match opsAt ops is with
  |some l=>evSeg P n true ops (fun _=>0) hs l E Hf kE []
  |none=>none
theorem segF {hs:List Hint}{is:List Nat}{kE:List Nat}{K:Env→Prop}(pE:List (Nat×Value))(ob:List Ob)(hq:obQ ob)(h:K (selE pE E kE))(he:segFB P n ops hs is E Hf (sk pE kE)=some (selE pE E kE,[],obP ob):=by as_aux_lemma=>kernel_rfl):SegF P n ops hs is E Hf kE K:=by
  unfold segFB at he
  split at he
  · rename_i l hl
    exact⟨pE,ob,l,hl,he,hq,h⟩
  · cases he
theorem St.ordF (hs:List Hint)(is:List Nat)(kE:List Nat){rest:List (Nat×Nat)}(hS:St c n E H A a w)(hap:Hf.Pairwise apartP)(h:SegF P n ops hs is E Hf kE fun E'=>∀a',St c n E' H A a' w→wpOrd P ops (Stay Hf) R rest a' w):wpOrd P ops (Stay Hf) R (marks is++rest) a w:=by
  obtain⟨pE,ob,l,h1,he,hq,hK⟩:=h;obtain⟨g1,g2,E1,s1,g3,g4,g5,e3⟩:=evSeg_spec he;have hob:AllP s1.ob:=e3▸hq.all;refine ordF_go (ν:=fun _=>0) (fun w' hV=>⟨hV,hap,fun j=>by show w'.heap.size+(0+j)=_;omega⟩) is hs l E E1 _ s1 rest a w h1 g3 rfl rfl g1 hS.env hS.size hob fun a' q1 q2 q3=>?_;exact hK a' ⟨q3.trans hS.defers,by rw [q2];exact hS.size,pickE_agree q1 g4,hS.mem⟩
theorem nAt_of_wpList1 {i:Nat}{o:Oper}{K:Act→World→Prop}(hi:ops[i]? =some o)(h:(Region.wanted o (yielded ops a.tmps)=true∧nOp P o a w K)∨(Region.wanted o (yielded ops a.tmps)=false∧K (a.put o.dst undef) w)):nAt P ops i K a w:=by
  unfold nAt
  simp only [hi]
  rcases h with⟨hw,h⟩|⟨hw,h⟩
  · rw [if_pos hw];exact h
  · rw [if_neg (by rw [hw];simp)];exact h
theorem St.ord1 (i:Nat)(hs:List Hint)(kE:List Nat){rest:List (Nat×Nat)}{o:Oper}(p:List Nat)(hS:St c n E H A a w)(hi:ops[i]? =some o)
    (h:∀ν:Nat→Nat,Seg P n false ops ν hs [o] E H kE fun E' H'=>pickH H' p=some Hf∧∀a' w',St c n E' H' A a' w'→wpOrd P ops (Stay Hf) R rest a' w'):wpOrd P ops (Stay Hf) R ((i,0)::rest) a w:=by
  obtain⟨pE,pH,ob,he,hq,hp,hk⟩:=h (fun j=>w.heap.size+j);have hob:=hq.all;obtain⟨g1,g2,E1,s1,g3,g4,g5,e3⟩:=evSeg_spec he;rw [←e3]at hob;refine nAt_of_wpList1 hi ?_
  cases hs with
  |nil=>simp [evOps]at g3
  |cons hn hs=>
    simp only [evOps]at g3
    split at g3
    · rename_i E2 s2 h1
      cases hs with
      |cons _ _=>simp [evOps]at g3
      |nil=>
        simp only [evOps,Option.some.injEq,Prod.mk.injEq]at g3
        obtain⟨rfl,rfl⟩:=g3
        simp only [guardsOk,Bool.and_true]at g1
        have hg1:∀d want,guardSlot ops o=some (d,want)→d<n:=by
          intro d want hd;rw [hd]at g1
          simpa using g1
        have fin:∀(u:Value) (w':World),Agree E2 (a.put o.dst u)→Fine (fun j=>w.heap.size+j) s2 w'→Own H w w'→Grew w ⟨H,0,[]⟩ s2→Stay Hf w'∧wpOrd P ops (Stay Hf) R rest (a.put o.dst u) w':=fun u w' hA F O G=>by
          have hS':St c n (selE pE E kE) (selH H pH) A (a.put o.dst u) w':=⟨(put_defers _ _ _).trans hS.defers,by rw [put_size];exact hS.size,pickE_agree hA g4,(O.ws hS.mem F.holds F.apart G.new).pick g5 g2⟩;exact⟨hS'.mem.stay hp,hk _ _ hS'⟩
        rcases evOp_sound h1 hS.env hg1 hS.size hS.mem.fine hob with⟨hw,r,w1,⟨hr,F1,O1,G1⟩,A1⟩|⟨hw,F1,G1,A1⟩
        · refine .inl ⟨hw,?_⟩
          unfold nOp
          rw [hr]
          cases r with
          |none=>exact fin _ _ A1 F1 O1 G1
          |some v=>exact fin _ _ A1 F1 O1 G1
        · exact .inr ⟨hw,fin _ _ A1 F1 (Own.refl _ _) G1⟩
    · simp at g3
theorem St.ord2 (i:Nat)(hs:List Hint)(kE:List Nat){rest:List (Nat×Nat)}{o:Oper}(hS:St c n E H A a w)(hi:ops[i]? =some o)
    (h:∀ν:Nat→Nat,Seg P n false ops ν hs [o] E H kE fun E' H'=>∀a' w',St c n E' H' A a' w'→wpOrd P ops (Stay Hf) R rest a' w'):wpOrd P ops (Stay Hf) R ((i,2)::rest) a w:=by
  obtain⟨pE,pH,ob,he,hq,hk⟩:=h (fun j=>w.heap.size+j);have hob:=hq.all;obtain⟨g1,g2,E1,s1,g3,g4,g5,e3⟩:=evSeg_spec he;rw [←e3]at hob;refine nAt_of_wpList1 hi ?_
  cases hs with
  |nil=>simp [evOps]at g3
  |cons hn hs=>
    simp only [evOps]at g3
    split at g3
    · rename_i E2 s2 h1
      cases hs with
      |cons _ _=>simp [evOps]at g3
      |nil=>
        simp only [evOps,Option.some.injEq,Prod.mk.injEq]at g3
        obtain⟨rfl,rfl⟩:=g3
        simp only [guardsOk,Bool.and_true]at g1
        have hg1:∀d want,guardSlot ops o=some (d,want)→d<n:=by
          intro d want hd;rw [hd]at g1
          simpa using g1
        have fin:∀(u:Value) (w':World),Agree E2 (a.put o.dst u)→Fine (fun j=>w.heap.size+j) s2 w'→Own H w w'→Grew w ⟨H,0,[]⟩ s2→wpOrd P ops (Stay Hf) R rest (a.put o.dst u) w':=fun u w' hA F O G=>by
          have hS':St c n (selE pE E kE) (selH H pH) A (a.put o.dst u) w':=⟨(put_defers _ _ _).trans hS.defers,by rw [put_size];exact hS.size,pickE_agree hA g4,(O.ws hS.mem F.holds F.apart G.new).pick g5 g2⟩;exact hk _ _ hS'
        rcases evOp_sound h1 hS.env hg1 hS.size hS.mem.fine hob with⟨hw,r,w1,⟨hr,F1,O1,G1⟩,A1⟩|⟨hw,F1,G1,A1⟩
        · refine .inl ⟨hw,?_⟩
          unfold nOp
          rw [hr]
          cases r with
          |none=>exact fin _ _ A1 F1 O1 G1
          |some v=>exact fin _ _ A1 F1 O1 G1
        · exact .inr ⟨hw,fin _ _ A1 F1 (Own.refl _ _) G1⟩
    · simp at g3
theorem St.ordC (i:Nat){o:Oper}{rest:List (Nat×Nat)}(hS:St c n E H A a w)(f:FuncId)(args:Array Value){R':Ending→World→Prop}(hC:Calls P f args w R')(hk:∀e w',R' e w'→∃v,e=.returned v∧Stay Hf w'∧wpOrd P ops (Stay Hf) R rest (a.put o.dst v) w')
    (hi:ops[i]? =some o:=by rfl) (hgn:o.guard=none:=by rfl) (he:evCall P ops 0 0 E H o=some (f,args,[]):=by as_aux_lemma=>kernel_rfl):wpOrd P ops (Stay Hf) R ((i,0)::rest) a w:=by
  have hb:∀d want,guardSlot ops o=some (d,want)→d<a.tmps.size:=by
    intro d want hd;obtain⟨j,hj,_⟩:=guardSlot_some hd;rw [hgn]at hj;cases hj
  obtain⟨hw,hr⟩:=evCall_run (c:=c) (A:=A) he trivial hS.env hb;refine nAt_of_wpList1 hi (.inl ⟨hw,?_⟩)
  unfold nOp
  rw [hr w hS.mem]
  exact hC.mono fun e w' hR=>by
    obtain⟨v,h1,h2,h3⟩:=hk e w' hR;exact⟨v,h1,h2,h3⟩
theorem zon (h:R a w){Hf:Heap} :wpOrd P ops (Stay Hf) R [] a w:=h
theorem WS.pairs {l:List Nat}(h:WS c H A w)(hp:pickH H l=some Hf:=by as_aux_lemma=>kernel_rfl)(hi:incr 0 l=true:=by rfl):Hf.Pairwise apartP:=(h.pick hp hi).apart
def Runs1 (P:Program)(o:Oper)(a:Act)(w:World)(K:Act→World→Prop):Prop:=∃v w',(execOp a.eval o).run P w=.ok (.value v) w'∧K (a.put o.dst v) w'
theorem Runs1.list {o:Oper}{rest:List Oper}(h:Runs1 P o a w (wpList P ops Q rest))(hg:o.guard=none:=by rfl):wpList P ops Q (o::rest) a w:=by
  obtain⟨v,w',h1,h2⟩:=h
  unfold wpList
  rw [if_pos (by simp [Region.wanted,hg])];refine .inl ?_
  unfold Oper.wp
  rw [h1];exact h2
theorem Runs1.ord {i:Nat}{o:Oper}{rest:List (Nat×Nat)}(h:Runs1 P o a w (fun a' w'=>Stay Hf w'∧wpOrd P ops (Stay Hf) R rest a' w'))(hi:ops[i]? =some o:=by rfl)(hg:o.guard=none:=by rfl):wpOrd P ops (Stay Hf) R ((i,0)::rest) a w:=by
  obtain⟨v,w',h1,h2⟩:=h;refine nAt_of_wpList1 hi (.inl ⟨by simp [Region.wanted,hg],?_⟩)
  unfold nOp
  rw [h1];exact h2
theorem St.ordV {l:List Nat}{r:List (Nat×Nat)}(hS:St c n E H A a w)(h:wpOrd P ops (Stay Hf) R r a w)(hp:pickH H l=some Hf:=by as_aux_lemma=>kernel_rfl):Stay Hf w∧wpOrd P ops (Stay Hf) R r a w:=⟨hS.mem.stay hp,h⟩
end
abbrev zbx (b:Nat)(N:Int):List Value:=[pt b 0,vi 1,vi N,pt b 0,vi 0,vi 256,pt b 0,vi 0,vi 88,pt b 0,vi 257,vi N]
abbrev zn2:PH:=[(0,none),(1,none)]
abbrev zn3:PH:=[(0,none),(1,none),(2,none)]
abbrev zn4:PH:=[(0,none),(1,none),(2,none),(3,none)]
abbrev zn5:PH:=[(0,none),(1,none),(2,none),(3,none),(4,none)]
abbrev zn6:PH:=[(0,none),(1,none),(2,none),(3,none),(4,none),(5,none)]
abbrev zn7:PH:=[(0,none),(1,none),(2,none),(3,none),(4,none),(5,none),(6,none)]
abbrev zn8:PH:=[(0,none),(1,none),(2,none),(3,none),(4,none),(5,none),(6,none),(7,none)]
abbrev zn9:PH:=[(0,none),(1,none),(2,none),(3,none),(4,none),(5,none),(6,none),(7,none),(8,none)]
abbrev zn10:PH:=[(0,none),(1,none),(2,none),(3,none),(4,none),(5,none),(6,none),(7,none),(8,none),(9,none)]
abbrev zn11:PH:=[(0,none),(1,none),(2,none),(3,none),(4,none),(5,none),(6,none),(7,none),(8,none),(9,none),(10,none)]
theorem tv:True:=trivial
theorem sg {P:Program}{n:Nat}{E:Env}{H:Heap}{q:Bool}{ops:Array Oper}{hs:List Hint}{l:List Oper}{kE:List Nat}{K:Env→Heap→Prop}(pE:List (Nat×Value))(pH:PH)(h:K (selE pE E kE) (selH H pH))(he:∀ν,evSeg P n q ops ν hs l E H (sk pE kE) (hk pH)=some (selE pE E kE,selH H pH,obP []):=by intro ν;as_aux_lemma=>kernel_rfl):∀ν,Seg P n q ops ν hs l E H kE K:=fun ν=>⟨pE,pH,[],he ν,trivial,h⟩
theorem St.kp {c:Cx}{n:Nat}{E:Env}{H:Heap}{A:List Res}{a:Act}{w w':World}(hS:St c n E H A a w)(hF:Fr w w' no no)(d:Nat)(v:Value)(hd:d<n:=by decide):St c n (putE E d [] v) H A (a.put (some d) v) w':=(hS.to (hS.mem.keep0 hF)).put hd
theorem St.sA {c:Cx}{n:Nat}{E:Env}{H:Heap}{A:List Res}{a:Act}{w w':World}{r r':Res}(hS:St c n E H A a w)(i:Nat)(hi:A[i]? =some r)(hr:r'.R w')(hf:Fr w w' r.F r'.F)(d:Nat)(v:Value)(hd:d<n:=by decide):St c n (putE E d [] v) H (A.set i r') (a.put (some d) v) w':=(hS.to (hS.mem.stepA i hi hr hf)).put hd
end Go.Proofs.YtojjkjedcafpeaaGreatDoor.K
