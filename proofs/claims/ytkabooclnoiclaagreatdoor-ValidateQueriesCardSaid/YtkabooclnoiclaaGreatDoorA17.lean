/- Abstract values. No condition. -/
import Derived.Test.YtkabooclnoiclaaGreatDoorA16
set_option linter.all false
section
namespace Go.Abs
open Go.RowKit (Below)
def Gj (K K':AFr->St->Prop) (AQ:Exit->AFr->St->Prop):wE K (wE K' AQ)=wE K AQ:=by
 funext e fr st; cases e<;>rfl
def pc (AQ:Exit->AFr->St->Prop):wE (fun fr st=>AQ .normal fr st) AQ=AQ:=by
 funext e fr st; cases e<;>rfl
section
variable {P:Program} {gl:Nat->List V} {cs:List Code} {AQ:Exit->AFr->St->Prop} {fr:AFr} {st:St}
def ZG {o:Oper} {K K':V->St->Prop} (a:∀v st,K v st->K' v st) (h:gI P gl o fr st K):gI P gl o fr st K':=by
 unfold gI at h ⊢;split at h
 ·split at h
  ·exact h.mono a
  ·exact h.elim
 ·split at h
  ·rcases h with h|h
   ·exact .inl (a _ _ h)
   ·refine .inr ?_;unfold nZ at h ⊢;split at h
    ·split at h
     ·exact a _ _ h
     ·exact h.elim
    ·exact h.elim
  ·exact h.elim
def be {ops:Array Oper} {K K':AFr->St->Prop} (a:∀fr st,K fr st->K' fr st):∀(l:List Oper) (fr:AFr) (st:St),u9 P gl ops l fr st K->u9 P gl ops l fr st K'
 | [],fr,st,h=>a _ _ h
 | o::r,fr,st,h=>by
  simp only [u9]at h ⊢;split at h
  ·exact ZG (fun v st h=>be a r _ _ h) h
  ·split at h
   ·exact⟨fun b=>ZG (fun v st h=>be a r _ _ h) (h.1 b),fun b=>be a r _ _ (h.2 b)⟩
   ·exact h.elim
def fX {ops:Array Oper} {i:Nat} {K K':AFr->St->Prop} (b:∀fr st,K fr st->K' fr st) (h:Gs P gl ops i fr st K):Gs P gl ops i fr st K':=by
 unfold Gs at h ⊢;split at h
 ·exact h.elim
 ·split at h
  ·exact ZG (fun v st h=>b _ _ h) h
  ·split at h
   ·exact⟨fun a=>ZG (fun v st h=>b _ _ h) (h.1 a),fun a=>b _ _ (h.2 a)⟩
   ·exact h.elim
def QC {ops:Array Oper} {E:List Nat} {B:List (List Nat)} {K K':AFr->St->Prop} (b:∀fr st,K fr st->K' fr st):∀(l seen:List Nat) (fr:AFr) (st:St),aD P gl ops E B l seen fr st K->aD P gl ops E B l seen fr st K'
 | [],seen,fr,st,h=>b _ _ h
 | i::r,seen,fr,st,h=>by
  simp only [aD]at h ⊢;split at h
  ·rename_i a; rw [iI a]; exact fX (fun fr st h=>⟨h.1,QC b r _ _ _ h.2⟩) h
  ·rename_i a; rw [iH a]; obtain⟨v,c,e⟩:=h; exact⟨v,c,QC b r _ _ _ e⟩
end
end Go.Abs
end
section
namespace Go.Abs
end Go.Abs
end
