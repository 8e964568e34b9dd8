/- Abstract values: a part. No condition beyond each statement's own. -/
import Derived.Test.YthfhicembdpjpaaGreatDoorA16
set_option linter.all false
section
namespace Go.Abs
open Go.RowKit (Below)
theorem Qh (K K':AFr→St→Prop) (AQ:Exit→AFr→St→Prop):jl K (jl K' AQ)=jl K AQ:=by
 funext e fr st; cases e<;>rfl
theorem XJ (AQ:Exit→AFr→St→Prop):jl (fun fr st=>AQ .normal fr st) AQ=AQ:=by
 funext e fr st; cases e<;>rfl
section
variable {P:Program} {gl:Nat→List V} {cs:List Code} {AQ:Exit→AFr→St→Prop} {fr:AFr} {st:St}
theorem Y8 {o:Oper} {K K':V→St→Prop} (hk:∀v st,K v st→K' v st) (h:pU P gl o fr st K):pU P gl o fr st K':=by
 unfold pU at h ⊢
 split at h
 ·split at h
  ·exact h.mono hk
  ·exact h.elim
 ·split at h
  ·rcases h with h|h
   ·exact .inl (hk _ _ h)
   ·refine .inr ?_
    unfold Kb at h ⊢
    split at h
    ·split at h
     ·exact hk _ _ h
     ·exact h.elim
    ·exact⟨h.1,h.2.imp fun _ q=>hk _ _ q⟩
    ·obtain⟨sz,v,st',h1,h2,h3,h4⟩:=h
     exact⟨sz,v,st',h1,h2,h3,hk _ _ h4⟩
    ·exact h.elim
  ·exact h.elim
theorem pB {ops:Array Oper} {K K':AFr→St→Prop} (hk:∀fr st,K fr st→K' fr st):∀(l:List Oper) (fr:AFr) (st:St),kJ P gl ops l fr st K→kJ P gl ops l fr st K'
 | [],fr,st,h=>hk _ _ h
 | o::r,fr,st,h=>by
  simp only [kJ]at h ⊢
  split at h
  ·exact Y8 (fun v st h=>pB hk r _ _ h) h
  ·split at h
   ·exact⟨fun hb=>Y8 (fun v st h=>pB hk r _ _ h) (h.1 hb),fun hb=>pB hk r _ _ (h.2 hb)⟩
   ·exact h.elim
theorem Bx {ops:Array Oper} {i:Nat} {K K':AFr→St→Prop} (hk:∀fr st,K fr st→K' fr st) (h:Qo P gl ops i fr st K):Qo P gl ops i fr st K':=by
 unfold Qo at h ⊢
 split at h
 ·exact h.elim
 ·split at h
  ·exact Y8 (fun v st h=>hk _ _ h) h
  ·split at h
   ·exact⟨fun hb=>Y8 (fun v st h=>hk _ _ h) (h.1 hb),fun hb=>hk _ _ (h.2 hb)⟩
   ·exact h.elim
theorem X7 {ops:Array Oper} {E:List Nat} {B:List (List Nat)} {K K':AFr→St→Prop} (hk:∀fr st,K fr st→K' fr st):∀(l seen:List Nat) (fr:AFr) (st:St),aD P gl ops E B l seen fr st K→aD P gl ops E B l seen fr st K'
 | [],seen,fr,st,h=>hk _ _ h
 | i::r,seen,fr,st,h=>by
  simp only [aD]at h ⊢
  split at h
  ·rename_i hc; rw [if_pos hc]; exact Bx (fun fr st h=>⟨h.1,X7 hk r _ _ _ h.2⟩) h
  ·rename_i hc; rw [if_neg hc]; obtain⟨v,h1,h2⟩:=h; exact⟨v,h1,X7 hk r _ _ _ h2⟩
end
theorem WI.of {fr fr':AFr} {st st':St} (hn:fr'.n=fr.n) (hl:∀p∈fr'.l,wh fr.l p.1=p.2∧V.sc st' p.2) (hs:gV st st'):WI fr fr' st st':=by
 refine⟨hn, ?_,hs.vars,hs.fams,hs.cells⟩
 intro t
 have key:∀l:List (Nat×V),wh l t= .junk∨(t,wh l t)∈l:=by
  intro l
  induction l with
  |nil=>exact .inl rfl
  | cons x r ih=>
   obtain⟨k,v⟩:=x
   simp only [wh]
   split
   ·rename_i h; subst h; exact .inr O2
   ·rcases ih with h|h
    ·exact .inl h
    ·exact .inr (List.mem_cons_of_mem _ h)
 rcases key fr'.l with h|h
 ·exact .inl h
 ·have:=hl _ h
  exact .inr ⟨this.1.symm,this.2⟩
theorem gV.ext {st:St} (h:st.ok) (xs xs':List (List V)) (ys ys':List Nat) (hc:∀c∈xs,V.scs (st.ext xs ys) c):gV (st.ext (xs++xs') (ys++ys')) (st.ext xs ys):=by
 refine⟨O2, ?_, ?_⟩
 ·intro t p hp
  have hlt:=Jc hp
  simp only [St.ext]at hp hlt ⊢
  rw [←List.append_assoc,List.getElem?_append_left hlt]; exact hp
 ·intro id cs hcs
  have hlt:=Jc hcs
  simp only [St.ext]at hcs hlt ⊢
  refine⟨?_,by rw [←List.append_assoc,List.getElem?_append_left hlt]; exact hcs⟩
  rcases Nat.lt_or_ge id st.vars.length with h1|h1
  ·rw [List.getElem?_append_left h1]at hcs
   exact V.scs_mono (St.le_ext st xs ys) cs (h id cs hcs)
  ·rw [List.getElem?_append_right h1]at hcs
   exact hc cs (List.mem_of_getElem? hcs)
end Go.Abs
end
section
namespace Go.Abs
end Go.Abs
end
