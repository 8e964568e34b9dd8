/- Layer: an abstract reading of values and worlds, and that the model's operations, regions, loops and calls keep to it. No condition beyond each statement's own. -/
import Derived.Test.YtbggpcnbbhjiaaaGreatDoorA29
set_option linter.unusedVariables false
set_option linter.unusedSimpArgs false
set_option linter.unnecessarySimpa false
section
namespace Go.Abs
inductive TT where
 |leaf
 |node (l:TT) (k:Nat) (v:TI) (r:TT)
def TT.get:TT→Nat→Option TI
 | .leaf,_=>none
 | .node l k v r,t=>bif Nat.blt t k then l.get t else bif Nat.beq t k then some v else r.get t
def TT.toList:TT→List (Nat×TI)
 | .leaf=> []
 | .node l k v r=>l.toList++(k,v)::r.toList
theorem TT.get_mem:∀(x:TT) (t:Nat) (v:TI),x.get t=some v→(t,v)∈x.toList
 | .leaf,t,v,h=>by simp [TT.get]at h
 | .node l k u r,t,v,h=>by
  simp only [TT.get]at h
  cases h1:Nat.blt t k with
  |true=>rw [h1]at h; simp only [cond_true]at h; simp [TT.toList,TT.get_mem l t v h]
  | false=>
   rw [h1]at h; simp only [cond_false]at h
   cases h2:Nat.beq t k with
   |true=>rw [h2]at h; simp only [cond_true]at h; injection h with h; subst h; have:=Nat.eq_of_beq_eq_true h2; subst this; simp [TT.toList]
   |false=>rw [h2]at h; simp only [cond_false]at h; simp [TT.toList,TT.get_mem r t v h]
theorem TT.eq_of {P:Program} {x:TT} (h:x.toList.map (fun p=>ti P p.1)=x.toList.map (·.2)):(fun t=>match x.get t with|some v=>v|none=>ti P t)=ti P:=by
 funext t
 cases hx:x.get t with
 |none=>rfl
 |some v=>exact(List.map_inj_left.1 h _ (x.get_mem t v hx)).symm
end Go.Abs
end
