import Derived.Test.YtojjkjedcafpeaaGreatDoorM5
namespace Go.Proofs.YtojjkjedcafpeaaGreatDoor.K
set_option linter.unusedSimpArgs false
set_option linter.unusedVariables false
section
end
section
end
section
def rnV (E:Nat→Int×Int×Bool)(o x:Nat):Value:=if(x-o)%3=0 then vi (E ((x-o)/3)).1 else if(x-o)%3=1 then vi (E ((x-o)/3)).2.1 else vb (E ((x-o)/3)).2.2
theorem rnV_0 (E:Nat→Int×Int×Bool)(o i:Nat):rnV E o (o+i*3)=vi (E i).1:=by
  unfold rnV;rw [show o+i*3-o=i*3 by omega,if_pos (by omega),show(i*3)/3=i by omega]
theorem rnV_1 (E:Nat→Int×Int×Bool)(o i:Nat):rnV E o (o+i*3+1)=vi (E i).2.1:=by
  unfold rnV;rw [show o+i*3+1-o=i*3+1 by omega,if_neg (by omega),if_pos (by omega),show(i*3+1)/3=i by omega]
theorem rnV_2 (E:Nat→Int×Int×Bool)(o i:Nat):rnV E o (o+i*3+2)=vb (E i).2.2:=by
  unfold rnV;rw [show o+i*3+2-o=i*3+2 by omega,if_neg (by omega),if_neg (by omega),show(i*3+2)/3=i by omega]
theorem rnV_cg {E E':Nat→Int×Int×Bool}{n:Nat}(o:Nat)(h:∀i,i<n→E i=E' i):∀x,x<o+n*3→rnV E o x=rnV E' o x∨x<o:=by
  intro x hx
  by_cases h1:x<o
  · exact .inr h1
  · left;unfold rnV;rw [h _ (by omega)]
theorem rnV_cg0 {E E':Nat→Int×Int×Bool}{n:Nat}(h:∀i,i<n→E i=E' i):∀x,x<n*3→rnV E 0 x=rnV E' 0 x:=fun x hx=>(rnV_cg 0 h x (by omega)).resolve_right (by omega)
theorem rnV_app (l:List (Int×Int×Bool))(a0:Int)(a1:Int)(a2:Bool):∀x,x<(l.length+1)*3→appF (rnV (gtD l) 0) (l.length*3) [vi a0,vi a1,vb a2] x=rnV (gtD (l++[(a0,a1,a2)])) 0 x:=by
  intro x hx
  unfold appF
  by_cases h1:x<l.length*3
  · rw [if_pos h1];exact rnV_cg0 (n:=l.length) (fun i hi=>by rw [gtD_app,if_pos hi]) x h1
  · rw [if_neg h1]
    rcases(by omega:x=l.length*3∨x=l.length*3+1∨x=l.length*3+2)with rfl|rfl|rfl
    · have:=rnV_0 (gtD (l++[(a0,a1,a2)])) 0 l.length;rw [Nat.zero_add]at this;rw [this,gtD_app,if_neg (by omega),show l.length*3-l.length*3=0 by omega,Nat.sub_self];rfl
    · have:=rnV_1 (gtD (l++[(a0,a1,a2)])) 0 l.length;rw [Nat.zero_add]at this;rw [this,gtD_app,if_neg (by omega),show l.length*3+1-l.length*3=1 by omega,Nat.sub_self];rfl
    · have:=rnV_2 (gtD (l++[(a0,a1,a2)])) 0 l.length;rw [Nat.zero_add]at this;rw [this,gtD_app,if_neg (by omega),show l.length*3+2-l.length*3=2 by omega,Nat.sub_self];rfl
end
section
def a8V (E:Nat→Int×Int×Int)(o x:Nat):Value:=if(x-o)%3=0 then v8 (E ((x-o)/3)).1 else if(x-o)%3=1 then vi (E ((x-o)/3)).2.1 else vi (E ((x-o)/3)).2.2
theorem a8V_0 (E:Nat→Int×Int×Int)(o i:Nat):a8V E o (o+i*3)=v8 (E i).1:=by
  unfold a8V;rw [show o+i*3-o=i*3 by omega,if_pos (by omega),show(i*3)/3=i by omega]
theorem a8V_1 (E:Nat→Int×Int×Int)(o i:Nat):a8V E o (o+i*3+1)=vi (E i).2.1:=by
  unfold a8V;rw [show o+i*3+1-o=i*3+1 by omega,if_neg (by omega),if_pos (by omega),show(i*3+1)/3=i by omega]
theorem a8V_2 (E:Nat→Int×Int×Int)(o i:Nat):a8V E o (o+i*3+2)=vi (E i).2.2:=by
  unfold a8V;rw [show o+i*3+2-o=i*3+2 by omega,if_neg (by omega),if_neg (by omega),show(i*3+2)/3=i by omega]
theorem a8V_cg {E E':Nat→Int×Int×Int}{n:Nat}(o:Nat)(h:∀i,i<n→E i=E' i):∀x,x<o+n*3→a8V E o x=a8V E' o x∨x<o:=by
  intro x hx
  by_cases h1:x<o
  · exact .inr h1
  · left;unfold a8V;rw [h _ (by omega)]
end
abbrev zL (L:List (Int×Int×Bool))(o:Nat):HE:=.fn o (o+L.length*3) (rnV (gtD L) o)
end Go.Proofs.YtojjkjedcafpeaaGreatDoor.K
