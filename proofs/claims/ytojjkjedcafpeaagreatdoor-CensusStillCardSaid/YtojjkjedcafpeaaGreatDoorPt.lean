import Derived.Test.YtojjkjedcafpeaaGreatDoorPw
import Derived.Test.YtojjkjedcafpeaaGreatDoorOa
namespace Go.Proofs.YtojjkjedcafpeaaGreatDoor.K
set_option linter.unusedSimpArgs false
set_option linter.unusedVariables false
theorem ArAt.congrD {w w':World}{r:ArS}{d:Lie}(h:ArAt w r d)(e:∀k,r.F k→w'.heap[k]? =w.heap[k]?):ArAt w' r d:=by
  refine⟨?_,?_,?_,h.set,?_,h.ne1,h.ne2,h.ne3,h.ne4,h.inj,h.capLe,h.refuseLe,h.foot⟩
  · rw [e _ ((h.foot _).2 (.inl rfl))];exact h.head
  · obtain⟨c,hc,r⟩:=h.pages
    exact⟨c,by rw [e _ ((h.foot _).2 (.inr (.inl rfl)))];exact hc,r⟩
  · obtain⟨c,T,fz,hc,r⟩:=h.words
    exact⟨c,T,fz,by rw [e _ ((h.foot _).2 (.inr (.inr (.inl rfl))))];exact hc,r⟩
  · intro i h1 h2
    obtain⟨c,T,hc,r⟩:=h.page i h1 h2;exact⟨c,T,by rw [e _ ((h.foot _).2 (.inr (.inr (.inr ⟨i,h1,h2,rfl⟩))))];exact hc,r⟩
section
variable {H:Heap}{w0 w:World}{F:Nat→Prop}{d:Lie}{m':AM}
end
def Tw (w:World)(b:Nat)(F:Nat→Prop)(q:Nat×AM×AM):Prop:=
  ∃(d:Lie) (F1 F2:Nat→Prop),ArAt w ⟨b,F1,q.2.1⟩ d∧Ar w ⟨q.1,F2,q.2.2⟩∧(∀k,F1 k→k≠d.bw→¬F2 k)∧∀k,F k↔F1 k∨F2 k
def twR (b:Nat)(F:Nat→Prop)(q:Nat×AM×AM):Res:=⟨F,fun w=>Tw w b F q,fun w h k hk=>by
  obtain⟨d,F1,F2,hA,hB,_,hF⟩:=h
  rcases(hF k).1 hk with hk|hk
  · exact Ar.lt (⟨d,hA⟩:Ar w ⟨b,F1,q.2.1⟩) hk
  · exact hB.lt hk,fun w w' h e=>by
  obtain⟨d,F1,F2,hA,hB,hD,hF⟩:=h
  exact⟨d,F1,F2,hA.congrD (fun k hk=>e k ((hF k).2 (.inl hk))),hB.congr (fun k hk=>e k ((hF k).2 (.inr hk))),hD,hF⟩⟩
theorem ar_cloneT {w w':World}{b b' bp':Nat}{F Fq:Nat→Prop}{m:AM}{d:Lie}{TA TP:TypeId}{pb:Nat→Nat}{no':Nat→Prop}(hd:ArAt w ⟨b,F,m⟩ d)(h1:HE.holds w' b' (.cells (headV bp' m.cap d.bw d.ow d.nw d.cw (countTo m.com m.cap) m.armed m.refuse) TA))(h2:HE.holds w' bp' (.row TP m.cap m.cap (pagesV (comC m.com m.cap) pb 0)))
    (hp:(pgR 0 Fq ⟨m.cap,comC m.com m.cap,m.mem,pb⟩).R w') (hf:Fr w w' no no') (e1:b'≠bp') (n1:¬Fq b') (n2:¬Fq bp') (f1:w.heap.size≤b') (f2:w.heap.size≤bp') (f3:∀k,Fq k→w.heap.size≤k):∃F',(twR b F' (b',m,m)).R w'∧Fr w w' F F':=by
  have hbw:d.bw<w.heap.size:=by obtain⟨c,T,fz,hc,_⟩:=hd.words;exact lt_of_some hc
  have hF:F d.bw:=(hd.foot _).2 (.inr (.inr (.inl rfl)));have P:PgAt w' Fq ⟨m.cap,comC m.com m.cap,m.mem,pb⟩:=hp;obtain⟨c3,T,fz,k5,k6⟩:=hd.words;have hcc:∀i,i<m.cap→comC m.com m.cap i=m.com i:=fun i hi=>by unfold comC;simp [hi]
  have hB:Ar w' ⟨b',fun k=>k=b'∨k=bp'∨k=d.bw∨Fq k,m⟩:=by
    refine⟨⟨bp',d.bw,d.ow,d.nw,d.cw,d.ws,pb,TA,TP⟩,h1,?_,?_,hd.set,fun i hi hc=>?_,e1,fun e=>?_,fun e=>?_,fun i hi hc=>⟨fun e=>?_,fun e=>?_,fun e=>?_⟩,fun i j hi hci hj hcj e=>?_,hd.capLe,hd.refuseLe,fun k=>?_⟩
    · obtain⟨c,q1,q2,_,q4⟩:=h2
      refine⟨c,q1,q2,fun i hi=>?_⟩;rw [q4 i hi]
      unfold pagesV pageOf
      rw [Nat.sub_zero,hcc i hi]
    · exact⟨c3,T,fz,(hf.block d.bw hbw (fun q=>q)).trans k5,k6⟩
    · obtain⟨T,hT⟩:=P.page i hi ((hcc i hi).trans hc)
      obtain⟨c,q1,q2,_,q4⟩:=hT;refine⟨c,T,q1,q2,fun o ho=>?_⟩;rw [q4 o ho];unfold bytes;rw [Nat.sub_zero]
    · have:b'=d.bw:=e;omega
    · have:bp'=d.bw:=e;omega
    · exact n1 ((P.foot b').2 ⟨i,hi,(hcc i hi).trans hc,e.symm⟩)
    · exact n2 ((P.foot bp').2 ⟨i,hi,(hcc i hi).trans hc,e.symm⟩)
    · have:=f3 _ ((P.foot (pb i)).2 ⟨i,hi,(hcc i hi).trans hc,rfl⟩)
      have e':pb i=d.bw:=e;omega
    · exact P.inj i j hi ((hcc i hi).trans hci) hj ((hcc j hj).trans hcj) e
    · constructor
      · rintro(q|q|q|q)
        · exact .inl q
        · exact .inr (.inl q)
        · exact .inr (.inr (.inl q))
        · obtain⟨i,hi,hc,q2⟩:=(P.foot k).1 q
          exact .inr (.inr (.inr ⟨i,hi,(hcc i hi).symm.trans hc,q2⟩))
      · rintro(q|q|q|⟨i,hi,hc,q2⟩)
        · exact .inl q
        · exact .inr (.inl q)
        · exact .inr (.inr (.inl q))
        · exact .inr (.inr (.inr ((P.foot k).2 ⟨i,hi,(hcc i hi).trans hc,q2⟩)))
  have hA:ArAt w' ⟨b,F,m⟩ d:=hd.congrD (fun k hk=>hf.block k (Ar.lt (⟨d,hd⟩:Ar w ⟨b,F,m⟩) hk) (fun q=>q));have hlt:∀k,F k→k<w.heap.size:=fun k hk=>Ar.lt (⟨d,hd⟩:Ar w ⟨b,F,m⟩) hk
  refine⟨fun k=>F k∨(k=b'∨k=bp'∨k=d.bw∨Fq k),⟨d,F,_,hA,hB,fun k q1 q2 q3=>?_,fun k=>Iff.rfl⟩,hf.os,hf.tape,hf.output,hf.size,fun k hk _=>hf.block k hk (fun q=>q),fun k hk=>?_⟩
  · have:=hlt k q1
    rcases q3 with rfl|rfl|q3|q3
    · omega
    · omega
    · exact q2 q3
    · have:=f3 k q3;omega
  · rcases hk with hk|rfl|rfl|rfl|q
    · exact .inl hk
    · exact .inr f1
    · exact .inr f2
    · exact .inl hF
    · exact .inr (f3 k q)
def arD (b:Nat)(F:Nat→Prop)(q:AM×Lie):Res:=⟨F,fun w=>ArAt w ⟨b,F,q.1⟩ q.2,fun w h k hk=>Ar.lt (⟨q.2,h⟩:Ar w ⟨b,F,q.1⟩) hk,fun w w' h e=>h.congrD e⟩
end Go.Proofs.YtojjkjedcafpeaaGreatDoor.K
