/- Layer: an abstract reading of values and worlds, and that the model's operations, regions, loops and calls keep to it. No condition beyond each statement's own. -/
import Derived.Test.YtbggpcnbbhjiaaaGreatDoorA17
set_option linter.unusedVariables false
set_option linter.unusedSimpArgs false
set_option linter.unnecessarySimpa false
section
namespace Go.Abs
open Go.RowKit (Below)
theorem cd (K K':AFr→St→Prop) (AQ:Exit→AFr→St→Prop):un K (un K' AQ)=un K AQ:=by
 funext e fr st; cases e<;>rfl
theorem W9 (AQ:Exit→AFr→St→Prop):un (fun fr st=>AQ .normal fr st) AQ=AQ:=by
 funext e fr st; cases e<;>rfl
section
variable {P:Program} {gl:Nat→List V} {cs:List Code} {AQ:Exit→AFr→St→Prop} {fr:AFr} {st:St}
theorem Ui {o:Oper} {K K':V→St→Prop} (hk:∀v st,K v st→K' v st) (h:XF P gl o fr st K):XF P gl o fr st K':=by
 unfold XF at h ⊢
 split at h
 ·split at h
  ·exact h.mono hk
  ·exact h.elim
 ·split at h
  ·rcases h with h|h
   ·exact .inl (hk _ _ h)
   ·refine .inr ?_
    unfold nZ at h ⊢
    split at h
    ·split at h
     ·exact hk _ _ h
     ·exact h.elim
    ·exact h.elim
  ·exact h.elim
theorem Y6 {ops:Array Oper} {K K':AFr→St→Prop} (hk:∀fr st,K fr st→K' fr st):∀(l:List Oper) (fr:AFr) (st:St),dw P gl ops l fr st K→dw P gl ops l fr st K'
 | [],fr,st,h=>hk _ _ h
 | o::r,fr,st,h=>by
  simp only [dw]at h ⊢
  split at h
  ·exact Ui (fun v st h=>Y6 hk r _ _ h) h
  ·split at h
   ·exact⟨fun hb=>Ui (fun v st h=>Y6 hk r _ _ h) (h.1 hb),fun hb=>Y6 hk r _ _ (h.2 hb)⟩
   ·exact h.elim
theorem ob {ops:Array Oper} {i:Nat} {K K':AFr→St→Prop} (hk:∀fr st,K fr st→K' fr st) (h:cz P gl ops i fr st K):cz P gl ops i fr st K':=by
 unfold cz at h ⊢
 split at h
 ·exact h.elim
 ·split at h
  ·exact Ui (fun v st h=>hk _ _ h) h
  ·split at h
   ·exact⟨fun hb=>Ui (fun v st h=>hk _ _ h) (h.1 hb),fun hb=>hk _ _ (h.2 hb)⟩
   ·exact h.elim
theorem Dw {ops:Array Oper} {E:List Nat} {B:List (List Nat)} {K K':AFr→St→Prop} (hk:∀fr st,K fr st→K' fr st):∀(l seen:List Nat) (fr:AFr) (st:St),aD P gl ops E B l seen fr st K→aD P gl ops E B l seen fr st K'
 | [],seen,fr,st,h=>hk _ _ h
 | i::r,seen,fr,st,h=>by
  simp only [aD]at h ⊢
  split at h
  ·rename_i hc; rw [if_pos hc]; exact ob (fun fr st h=>⟨h.1,Dw hk r _ _ _ h.2⟩) h
  ·rename_i hc; rw [if_neg hc]; obtain⟨v,h1,h2⟩:=h; exact⟨v,h1,Dw hk r _ _ _ h2⟩
end
end Go.Abs
end
