import Derived.Test.YtojjkjedcafpeaaGreatDoorSy
import Derived.Test.YtojjkjedcafpeaaGreatDoorGf
import Derived.Test.YtojjkjedcafpeaaGreatDoorNd
namespace Go.Proofs.YtojjkjedcafpeaaGreatDoor.K
set_option linter.unusedSimpArgs false
set_option linter.unusedVariables false
section
variable {P:Program}{c:Cx}{n:Nat}{E:Env}{H:Heap}{A:List Res}{a:Act}{w:World}
theorem WS.outA1 {r:Res}{w':World}(h:WS c H A w)(hN:r.R w')(hF:Fr w w' no r.F){g:Nat}{x:HE}(ho:x.own=false)(hh:x.holds w' g)(hog:(∃(i:Nat) (y:HE),H[i]? =some (g,y)∧y.own=false)∨w.heap.size≤g)(hnf:¬r.F g):WS c (H++[(g,x)]) (A++[r]) w':=by
  refine(h.newA hN hF).add hh (fun q=>by rw [ho]at q;cases q) (fun hin=>?_) (fun e he hoe e1=>?_)
  · obtain⟨s,hs,hk⟩:=inF_iff.1 hin
    rcases List.mem_append.1 hs with hs|hs
    · rcases hog with⟨i,y,hi,_⟩|hg
      · exact h.free _ (List.mem_of_getElem? hi) (inF_iff.2 ⟨s,hs,hk⟩)
      · have:=h.ars.lt (inF_iff.2 ⟨s,hs,hk⟩);omega
    · obtain rfl:=List.mem_singleton.1 hs;exact hnf hk
  · have hoe:e.2.own=true:=hoe.resolve_left (fun q=>by rw [ho]at q;cases q)
    rcases hog with⟨i,y,hi,hy⟩|hg
    · obtain⟨j,hj⟩:=List.getElem?_of_mem he
      have hne:j≠i:=fun q=>by
        subst q;rw [hi]at hj
        cases hj
        rw [hy]at hoe;cases hoe
      exact pairwise_get h.apart hne hj hi (.inl hoe) e1
    · have:=(h.heap e he).lt;omega
end
theorem ints_app1 (L:List Int)(a:Int):∀x,x<(L.length+1)*1→appF (ints L 0) (L.length*1) [vi a] x=ints (L++[a]) 0 x:=by
  intro x hx
  unfold appF ints
  simp only [Nat.mul_one,Nat.sub_zero]
  by_cases h:x<L.length
  · rw [if_pos h,List.getD_eq_getElem?_getD,List.getD_eq_getElem?_getD,List.getElem?_append_left h]
  · rw [if_neg h]
    rw [List.getD_eq_getElem?_getD,List.getD_eq_getElem?_getD,List.getElem?_append_right (by omega)];obtain q:x-L.length=0:=by omega
    rw [q];rfl
section
variable {m:AM}{z:Int}{l:List HdI}{b:Nat}
end
section
variable {m:AM}{z:Int}{l:List HdI}{b:Nat}
end
end Go.Proofs.YtojjkjedcafpeaaGreatDoor.K
