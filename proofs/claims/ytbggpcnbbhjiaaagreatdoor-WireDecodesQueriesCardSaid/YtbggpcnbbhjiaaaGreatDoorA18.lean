/- Layer: an abstract reading of values and worlds, and that the model's operations, regions, loops and calls keep to it. No condition beyond each statement's own. -/
import Derived.Test.YtbggpcnbbhjiaaaGreatDoorA17
set_option linter.unusedVariables false
set_option linter.unusedSimpArgs false
set_option linter.unnecessarySimpa false
section
namespace Go.Abs
open Go.RowKit (Below)
theorem fe (K K':AFr→St→Prop) (AQ:Exit→AFr→St→Prop):uy K (uy K' AQ)=uy K AQ:=by
 funext e fr st; cases e<;>rfl
theorem V6 (AQ:Exit→AFr→St→Prop):uy (fun fr st=>AQ .normal fr st) AQ=AQ:=by
 funext e fr st; cases e<;>rfl
section
variable {P:Program} {gl:Nat→List V} {cs:List Code} {AQ:Exit→AFr→St→Prop} {fr:AFr} {st:St}
theorem Jd {o:Oper} {K K':V→St→Prop} (hk:∀v st,K v st→K' v st) (h:Ww P gl o fr st K):Ww P gl o fr st K':=by
 unfold Ww at h ⊢
 split at h
 ·split at h
  ·exact h.mono hk
  ·exact h.elim
 ·split at h
  ·rcases h with h|h
   ·exact .inl (hk _ _ h)
   ·refine .inr ?_
    unfold rD at h ⊢
    split at h
    ·split at h
     ·exact hk _ _ h
     ·exact h.elim
    ·exact h.elim
  ·exact h.elim
theorem XC {ops:Array Oper} {K K':AFr→St→Prop} (hk:∀fr st,K fr st→K' fr st):∀(l:List Oper) (fr:AFr) (st:St),dG P gl ops l fr st K→dG P gl ops l fr st K'
 | [],fr,st,h=>hk _ _ h
 | o::r,fr,st,h=>by
  simp only [dG]at h ⊢
  split at h
  ·exact Jd (fun v st h=>XC hk r _ _ h) h
  ·split at h
   ·exact⟨fun hb=>Jd (fun v st h=>XC hk r _ _ h) (h.1 hb),fun hb=>XC hk r _ _ (h.2 hb)⟩
   ·exact h.elim
theorem rI {ops:Array Oper} {i:Nat} {K K':AFr→St→Prop} (hk:∀fr st,K fr st→K' fr st) (h:fv P gl ops i fr st K):fv P gl ops i fr st K':=by
 unfold fv at h ⊢
 split at h
 ·exact h.elim
 ·split at h
  ·exact Jd (fun v st h=>hk _ _ h) h
  ·split at h
   ·exact⟨fun hb=>Jd (fun v st h=>hk _ _ h) (h.1 hb),fun hb=>hk _ _ (h.2 hb)⟩
   ·exact h.elim
theorem PA {ops:Array Oper} {E:List Nat} {B:List (List Nat)} {K K':AFr→St→Prop} (hk:∀fr st,K fr st→K' fr st):∀(l seen:List Nat) (fr:AFr) (st:St),aD P gl ops E B l seen fr st K→aD P gl ops E B l seen fr st K'
 | [],seen,fr,st,h=>hk _ _ h
 | i::r,seen,fr,st,h=>by
  simp only [aD]at h ⊢
  split at h
  ·rename_i hc; rw [if_pos hc]; exact rI (fun fr st h=>⟨h.1,PA hk r _ _ _ h.2⟩) h
  ·rename_i hc; rw [if_neg hc]; obtain⟨v,h1,h2⟩:=h; exact⟨v,h1,PA hk r _ _ _ h2⟩
end
end Go.Abs
end
