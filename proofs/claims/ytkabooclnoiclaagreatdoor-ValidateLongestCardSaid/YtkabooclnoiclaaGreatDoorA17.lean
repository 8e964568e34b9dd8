/- Abstract values: a part. No condition beyond each statement's own. -/
import Derived.Test.YtkabooclnoiclaaGreatDoorA16
set_option linter.all false
section
namespace Go.Abs
open Go.RowKit (Below)
theorem UA (K K':AFr→St→Prop) (AQ:Exit→AFr→St→Prop):yG K (yG K' AQ)=yG K AQ:=by
 funext e fr st; cases e<;>rfl
theorem jV (AQ:Exit→AFr→St→Prop):yG (fun fr st=>AQ .normal fr st) AQ=AQ:=by
 funext e fr st; cases e<;>rfl
section
variable {P:Program} {gl:Nat→List V} {cs:List Code} {AQ:Exit→AFr→St→Prop} {fr:AFr} {st:St}
theorem kJ {o:Oper} {K K':V→St→Prop} (hk:∀v st,K v st→K' v st) (h:u5 P gl o fr st K):u5 P gl o fr st K':=by
 unfold u5 at h ⊢
 split at h
 ·split at h
  ·exact h.mono hk
  ·exact h.elim
 ·split at h
  ·rcases h with h|h
   ·exact .inl (hk _ _ h)
   ·refine .inr ?_
    unfold PT at h ⊢
    split at h
    ·split at h
     ·exact hk _ _ h
     ·exact h.elim
    ·exact h.elim
  ·exact h.elim
theorem kN {ops:Array Oper} {K K':AFr→St→Prop} (hk:∀fr st,K fr st→K' fr st):∀(l:List Oper) (fr:AFr) (st:St),wi P gl ops l fr st K→wi P gl ops l fr st K'
 | [],fr,st,h=>hk _ _ h
 | o::r,fr,st,h=>by
  simp only [wi]at h ⊢
  split at h
  ·exact kJ (fun v st h=>kN hk r _ _ h) h
  ·split at h
   ·exact⟨fun hb=>kJ (fun v st h=>kN hk r _ _ h) (h.1 hb),fun hb=>kN hk r _ _ (h.2 hb)⟩
   ·exact h.elim
theorem Gg {ops:Array Oper} {i:Nat} {K K':AFr→St→Prop} (hk:∀fr st,K fr st→K' fr st) (h:UK P gl ops i fr st K):UK P gl ops i fr st K':=by
 unfold UK at h ⊢
 split at h
 ·exact h.elim
 ·split at h
  ·exact kJ (fun v st h=>hk _ _ h) h
  ·split at h
   ·exact⟨fun hb=>kJ (fun v st h=>hk _ _ h) (h.1 hb),fun hb=>hk _ _ (h.2 hb)⟩
   ·exact h.elim
theorem Wv {ops:Array Oper} {E:List Nat} {B:List (List Nat)} {K K':AFr→St→Prop} (hk:∀fr st,K fr st→K' fr st):∀(l seen:List Nat) (fr:AFr) (st:St),aD P gl ops E B l seen fr st K→aD P gl ops E B l seen fr st K'
 | [],seen,fr,st,h=>hk _ _ h
 | i::r,seen,fr,st,h=>by
  simp only [aD]at h ⊢
  split at h
  ·rename_i hc; rw [if_pos hc]; exact Gg (fun fr st h=>⟨h.1,Wv hk r _ _ _ h.2⟩) h
  ·rename_i hc; rw [if_neg hc]; obtain⟨v,h1,h2⟩:=h; exact⟨v,h1,Wv hk r _ _ _ h2⟩
end
theorem dJ.of {fr fr':AFr} {st st':St} (hn:fr'.n=fr.n) (hl:∀p∈fr'.l,zq fr.l p.1=p.2∧V.sc st' p.2) (hs:wR st st'):dJ fr fr' st st':=by
 refine⟨hn, ?_,hs.vars,hs.fams,hs.cells⟩
 intro t
 have key:∀l:List (Nat×V),zq l t= .junk∨(t,zq l t)∈l:=by
  intro l
  induction l with
  |nil=>exact .inl rfl
  | cons x r ih=>
   obtain⟨k,v⟩:=x
   simp only [zq]
   split
   ·rename_i h; subst h; exact .inr O2
   ·rcases ih with h|h
    ·exact .inl h
    ·exact .inr (List.mem_cons_of_mem _ h)
 rcases key fr'.l with h|h
 ·exact .inl h
 ·have:=hl _ h
  exact .inr ⟨this.1.symm,this.2⟩
theorem wR.ext {st:St} (h:st.ok) (xs xs':List (List V)) (ys ys':List Nat) (hc:∀c∈xs,V.scs (st.ext xs ys) c):wR (st.ext (xs++xs') (ys++ys')) (st.ext xs ys):=by
 refine⟨O2, ?_, ?_⟩
 ·intro t p hp
  have hlt:=WB hp
  simp only [St.ext]at hp hlt ⊢
  rw [←List.append_assoc,List.getElem?_append_left hlt]; exact hp
 ·intro id cs hcs
  have hlt:=WB hcs
  simp only [St.ext]at hcs hlt ⊢
  refine⟨?_,by rw [←List.append_assoc,List.getElem?_append_left hlt]; exact hcs⟩
  rcases Nat.lt_or_ge id st.vars.length with h1|h1
  ·rw [List.getElem?_append_left h1]at hcs
   exact V.scs_mono (St.le_ext st xs ys) cs (h id cs hcs)
  ·rw [List.getElem?_append_right h1]at hcs
   exact hc cs (List.mem_of_getElem? hcs)
end Go.Abs
end
section
namespace Go.Abs
end Go.Abs
end
