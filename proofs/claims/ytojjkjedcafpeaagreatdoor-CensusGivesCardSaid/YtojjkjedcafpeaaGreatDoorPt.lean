import Derived.Test.YtojjkjedcafpeaaGreatDoorPw
import Derived.Test.YtojjkjedcafpeaaGreatDoorOa
namespace Go.Proofs.YtojjkjedcafpeaaGreatDoor.K
set_option linter.unusedSimpArgs false
set_option linter.unusedVariables false
theorem ArAt.congrD {w w':World}{r:ArS}{d:Lie}(h:ArAt w r d)(e:∀k,r.F k→w'.heap[k]? =w.heap[k]?):ArAt w' r d:=by
  refine⟨?_,?_,?_,h.set,?_,h.ne1,h.ne2,h.ne3,h.ne4,h.inj,h.capLe,h.refuseLe,h.foot⟩
  · rw [e _ ((h.foot _).2 (.inl rfl))];exact h.head
  · obtain⟨c,hc,r⟩:=h.pages
    exact⟨c,by rw [e _ ((h.foot _).2 (.inr (.inl rfl)))];exact hc,r⟩
  · obtain⟨c,T,fz,hc,r⟩:=h.words
    exact⟨c,T,fz,by rw [e _ ((h.foot _).2 (.inr (.inr (.inl rfl))))];exact hc,r⟩
  · intro i h1 h2
    obtain⟨c,T,hc,r⟩:=h.page i h1 h2;exact⟨c,T,by rw [e _ ((h.foot _).2 (.inr (.inr (.inr ⟨i,h1,h2,rfl⟩))))];exact hc,r⟩
section
variable {H:Heap}{w0 w:World}{F:Nat→Prop}{d:Lie}{m':AM}
end
def arD (b:Nat)(F:Nat→Prop)(q:AM×Lie):Res:=⟨F,fun w=>ArAt w ⟨b,F,q.1⟩ q.2,fun w h k hk=>Ar.lt (⟨q.2,h⟩:Ar w ⟨b,F,q.1⟩) hk,fun w w' h e=>h.congrD e⟩
end Go.Proofs.YtojjkjedcafpeaaGreatDoor.K
