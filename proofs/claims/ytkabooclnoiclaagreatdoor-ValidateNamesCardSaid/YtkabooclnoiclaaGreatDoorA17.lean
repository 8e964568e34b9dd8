/- Layer: an abstract reading of values and worlds, and that the model's operations, regions, loops and calls keep to it. No condition beyond each statement's own. -/
import Derived.Test.YtkabooclnoiclaaGreatDoorA16
set_option linter.unusedVariables false
set_option linter.unusedSimpArgs false
set_option linter.unnecessarySimpa false
section
namespace Go.Abs
open Go.RowKit (Below)
theorem V2 (K K':AFr→St→Prop) (AQ:Exit→AFr→St→Prop):yF K (yF K' AQ)=yF K AQ:=by
 funext e fr st; cases e<;>rfl
theorem jK (AQ:Exit→AFr→St→Prop):yF (fun fr st=>AQ .normal fr st) AQ=AQ:=by
 funext e fr st; cases e<;>rfl
section
variable {P:Program} {gl:Nat→List V} {cs:List Code} {AQ:Exit→AFr→St→Prop} {fr:AFr} {st:St}
theorem kq {o:Oper} {K K':V→St→Prop} (hk:∀v st,K v st→K' v st) (h:uO P gl o fr st K):uO P gl o fr st K':=by
 unfold uO at h ⊢
 split at h
 ·split at h
  ·exact h.mono hk
  ·exact h.elim
 ·split at h
  ·rcases h with h|h
   ·exact .inl (hk _ _ h)
   ·refine .inr ?_
    unfold Dz at h ⊢
    split at h
    ·split at h
     ·exact hk _ _ h
     ·exact h.elim
    ·exact h.elim
  ·exact h.elim
theorem ky {ops:Array Oper} {K K':AFr→St→Prop} (hk:∀fr st,K fr st→K' fr st):∀(l:List Oper) (fr:AFr) (st:St),wc P gl ops l fr st K→wc P gl ops l fr st K'
 | [],fr,st,h=>hk _ _ h
 | o::r,fr,st,h=>by
  simp only [wc]at h ⊢
  split at h
  ·exact kq (fun v st h=>ky hk r _ _ h) h
  ·split at h
   ·exact⟨fun hb=>kq (fun v st h=>ky hk r _ _ h) (h.1 hb),fun hb=>ky hk r _ _ (h.2 hb)⟩
   ·exact h.elim
theorem Bn {ops:Array Oper} {i:Nat} {K K':AFr→St→Prop} (hk:∀fr st,K fr st→K' fr st) (h:V9 P gl ops i fr st K):V9 P gl ops i fr st K':=by
 unfold V9 at h ⊢
 split at h
 ·exact h.elim
 ·split at h
  ·exact kq (fun v st h=>hk _ _ h) h
  ·split at h
   ·exact⟨fun hb=>kq (fun v st h=>hk _ _ h) (h.1 hb),fun hb=>hk _ _ (h.2 hb)⟩
   ·exact h.elim
theorem X8 {ops:Array Oper} {E:List Nat} {B:List (List Nat)} {K K':AFr→St→Prop} (hk:∀fr st,K fr st→K' fr st):∀(l seen:List Nat) (fr:AFr) (st:St),aD P gl ops E B l seen fr st K→aD P gl ops E B l seen fr st K'
 | [],seen,fr,st,h=>hk _ _ h
 | i::r,seen,fr,st,h=>by
  simp only [aD]at h ⊢
  split at h
  ·rename_i hc; rw [if_pos hc]; exact Bn (fun fr st h=>⟨h.1,X8 hk r _ _ _ h.2⟩) h
  ·rename_i hc; rw [if_neg hc]; obtain⟨v,h1,h2⟩:=h; exact⟨v,h1,X8 hk r _ _ _ h2⟩
end
theorem dh.of {fr fr':AFr} {st st':St} (hn:fr'.n=fr.n) (hl:∀p∈fr'.l,zp fr.l p.1=p.2∧V.sc st' p.2) (hs:wL st st'):dh fr fr' st st':=by
 refine⟨hn, ?_,hs.vars,hs.fams,hs.cells⟩
 intro t
 have key:∀l:List (Nat×V),zp l t= .junk∨(t,zp l t)∈l:=by
  intro l
  induction l with
  |nil=>exact .inl rfl
  | cons x r ih=>
   obtain⟨k,v⟩:=x
   simp only [zp]
   split
   ·rename_i h; subst h; exact .inr (by simp)
   ·rcases ih with h|h
    ·exact .inl h
    ·exact .inr (List.mem_cons_of_mem _ h)
 rcases key fr'.l with h|h
 ·exact .inl h
 ·have:=hl _ h
  exact .inr ⟨this.1.symm,this.2⟩
theorem wL.ext {st:St} (h:st.ok) (xs xs':List (List V)) (ys ys':List Nat) (hc:∀c∈xs,V.scs (st.ext xs ys) c):wL (st.ext (xs++xs') (ys++ys')) (st.ext xs ys):=by
 refine⟨by simp, ?_, ?_⟩
 ·intro t p hp
  have hlt:=Wf hp
  simp only [St.ext]at hp hlt ⊢
  rw [←List.append_assoc,List.getElem?_append_left hlt]; exact hp
 ·intro id cs hcs
  have hlt:=Wf hcs
  simp only [St.ext]at hcs hlt ⊢
  refine⟨?_,by rw [←List.append_assoc,List.getElem?_append_left hlt]; exact hcs⟩
  rcases Nat.lt_or_ge id st.vars.length with h1|h1
  ·rw [List.getElem?_append_left h1]at hcs
   exact V.scs_mono (St.le_ext st xs ys) cs (h id cs hcs)
  ·rw [List.getElem?_append_right h1]at hcs
   exact hc cs (List.mem_of_getElem? hcs)
end Go.Abs
end
section
namespace Go.Abs
end Go.Abs
end
