/- Abstract values: a part. No condition beyond each statement's own. -/
import Derived.Test.YthfhicembdpjpaaGreatDoorA18
set_option linter.all false
section
namespace Go.Abs
open Go.RowKit (Below)
def upd {α:Type}:List Nat→List α→List α→List α
 |i::σ,x::new,old=>upd σ new (old.set i x)
 |_,new,old=>old++new
theorem V8 {α:Type}:∀(σ:List Nat) (new old:List α),σ.Nodup→σ.length≤new.length→(∀i∈σ,i<old.length) →
  (upd σ new old).length=old.length+(new.length-σ.length) ∧
  (∀(k i:Nat),σ[k]? =some i→(upd σ new old)[i]? =new[k]?) ∧
  (∀(i:Nat),i<old.length→i∉σ→(upd σ new old)[i]? =old[i]?) ∧
  (∀(j:Nat),(upd σ new old)[old.length+j]? =new[σ.length+j]?)
 | [],new,old,_,_,_=>by
  have hu:upd [] new old=old++new:=by cases new<;>rfl
  rw [hu]
  refine⟨O2,O2,fun i hi _=>List.getElem?_append_left hi,fun j=> ?_⟩
  rw [List.getElem?_append_right O0]
  congr 1; simp
 |i::σ,[],old,_,hl,_=>by simp at hl
 | i ::σ,x::new,old,hn,hl,hm=>by
  simp only [List.nodup_cons]at hn
  obtain⟨h1,h2,h3,h4⟩:=V8 σ new (old.set i x) hn.2 (O7 hl) (fun j hj=>by simpa using hm j (List.mem_cons_of_mem _ hj))
  simp only [upd]
  simp only [List.length_set]at h1 h3 h4
  refine⟨by rw [h1]; simp, ?_, ?_, ?_⟩
  ·intro k j hk
   cases k with
   | zero=>
    simp at hk; subst hk
    rw [h3 _ (hm _ O2) hn.1]
    simp [hm i O2]
   |succ k=>simpa using h2 k j (O7 hk)
  ·intro j hj hjn
   simp only [List.mem_cons,not_or]at hjn
   rw [h3 j hj hjn.2,List.getElem?_set_ne (Ne.symm hjn.1)]
  ·intro j
   rw [h4 j]
   have:(i::σ).length+j=(σ.length+j)+1:=O3
   rw [this,List.getElem?_cons_succ]
def St.after (R:Ren) (st st1:St):St:=⟨upd R.σ (st1.vars.map (V.rens R)) st.vars,upd R.τ st1.fams st.fams⟩
section
variable {P:Program} {gl:Nat→List V}
open Classical in
noncomputable def Gh.push (G G1:Gh) (R:Ren):Gh where
 imm:=G1.imm
 var:=fun i=>if i<R.n then G.var i else G1.var (R.σ.length+(i-R.n))
 tip:=fun t p=>if t<R.m then(if h:∃k,R.τ[k]? =some t then G1.tip (Classical.choose h) p else G.tip t p)else G1.tip (R.τ.length+(t-R.m)) p
 room:=fun i=>if i<R.n then G.room i else G1.room (R.σ.length+(i-R.n))
theorem V.sc_after {R:Ren} {st st1:St} (hl:∀k,k<st1.vars.length→rn R.σ R.n k<(St.after R st st1).vars.length) (hf:∀(k p:Nat),st1.fams[k]? =some p→(St.after R st st1).fams[rn R.τ R.m k]? =some p):
  ∀(v:V),V.sc st1 v→V.sc (St.after R st st1) (V.ren R v):=by
 intro v
 refine V.rec (motive_1:=fun v=>V.sc st1 v→V.sc (St.after R st st1) (V.ren R v)) (motive_2:=fun l=>V.scs st1 l→V.scs (St.after R st st1) (V.rens R l)) (motive_3:=fun _=>True)
  ?_ ?_ ?_ ?_ ?_ ?_ ?_ ?_ ?_ ?_ ?_ ?_ ?_ ?_ ?_ ?_ ?_ ?_ ?_ ?_ ?_ ?_ ?_ ?_ ?_ ?_ ?_ ?_ ?_ v
 all_goals try (intros; trivial)
 ·intro id off h; simp only [V.sc,V.ren]at *; exact hl _ h
 ·intro sz es tok _ h
  cases tok with
  | fam t p=>
   simp only [V.sc,V.ren]at *
   obtain⟨q,hq,hp⟩:=h
   exact⟨q,hf t q hq,hp⟩
  |_=>simp [V.sc,V.ren]
 ·intro id off len cap sz h; simp only [V.sc,V.ren]at *; exact hl _ h
 ·intro fn a b ha hb h; simp only [V.sc,V.ren]at *; exact⟨ha h.1,hb h.2⟩
 ·intro cs ih h; simp only [V.sc,V.ren]at *; exact ih h
 ·intro cs ih h; simp only [V.sc,V.ren]at *; exact ih h
 ·intro id n sz h; simp only [V.sc,V.ren]at *; exact hl _ h
 ·intro id h; simp only [V.sc,V.ren]at *; exact hl _ h
 ·intro id h; simp only [V.sc,V.ren]at *; exact hl _ h
 ·intro t v ih h; simp only [V.sc,V.ren]at *; exact ih h
 ·intro id k T s h; simp only [V.sc,V.ren]at *; exact⟨hl _ h.1,hl _ h.2⟩
 ·intro v vs ih1 ih2 h; simp only [V.scs,V.rens]at *; exact⟨ih1 h.1,ih2 h.2⟩
theorem wn.frame {f:FuncId} {args args1:List V} {st st1:St} {R:Ren} {Q:V→St→Prop} (h:wn P gl f args1 st1 Q) (he:Emb R st1 st) (ha:dU (V.rens R args1) args) (hs:V.scs st1 args1):
  wn P gl f args st (fun r st'=>∃r1 st1',Q r1 st1'∧r=V.ren R r1∧st'=St.after R st st1'):=by
 refine⟨h.1, ?_⟩
 intro w0 G w cargs hr hv hsc
 let S1:Nat→Prop:=fun b=>(∃(k:Nat) (cs:List V),st1.vars[k]? =some cs∧V.gone cs=false∧G.var (rn R.σ R.n k)=some b)∨(∃k p e l,st1.fams[k]? =some p∧G.tip (rn R.τ R.m k) p=some (b,e,l))
 let B:qQ:=⟨w,S1,G.imm⟩
 have hsmall:Rel gl B (G.pull R) st1 w:=hr.embed he (XO.refl w S1 G.imm) (fun _ _ _=>rfl) (by
  intro g hn hm
  obtain⟨h1,C,el,fz,h2,_⟩:=hr.gfix g hn
  rcases hm with hm|⟨k,cs,hk,hgn,hb⟩|⟨k,p,e,l,hp,ht⟩
  ·exact Nat.lt_irrefl _ (Nat.lt_of_lt_of_le (qA h2) (Nat.le_trans hr.below.size hm))
  ·obtain⟨_,i,d,a1,a2,a3⟩:=he.vars k cs hk
   have e1:rn R.σ R.n k=i:=by simp [rn,a1]
   rw [e1]at hb
   obtain⟨b,o,k1,k2,_⟩:=hr.vars i d a2 (a3.live hgn)
   rw [hb]at k1; injection k1 with k1; subst k1
   exact h1 k2
  ·obtain⟨i,a1,a2,a3⟩:=he.rnτ hp
   rw [a2]at ht
   exact h1 (hr.fam i p g e l a3 ht).1) (fun k b cs hk hn hb=> .inr (.inl ⟨k,cs,hk,hn,hb⟩)) (fun k p b e l hp ht=> .inr (.inr ⟨k,p,e,l,hp,ht⟩))
 refine(h.2 B (G.pull R) w cargs hsmall (((G.pull_pull R st1).vrs hs).2 (ha.vrs hv)) hs).mono ?_
 rintro e w' ⟨r,c,st1',G1,rfl,hq,hvr,hsr,hrel,hext,hle⟩
 have lσ:=he.lenσ
 have lτ:=he.lenτ
 have ln:=he.n
 have lm:=he.m
 have hlv:R.σ.length≤st1'.vars.length:=by rw [lσ]; exact hle.vars
 have hlf:R.τ.length≤st1'.fams.length:=by
  rw [lτ]
  rcases Nat.lt_or_ge st1'.fams.length st1.fams.length with h'|h'
  ·obtain⟨q,hq,_⟩:=hle.fams st1'.fams.length _ (List.getElem?_eq_getElem h')
   exact absurd (yj hq) (Nat.lt_irrefl _)
  ·exact h'
 have inσ:∀i∈R.σ,i<st.vars.length:=by
  intro i hi
  obtain⟨k,hk⟩:=List.getElem?_of_mem hi
  obtain⟨i',a1,_,a3⟩:=he.rnσ (k:=k) (by rw [←lσ]; exact yj hk)
  rw [hk]at a1; injection a1 with a1; subst a1; exact a3
 have inτ:∀i∈R.τ,i<st.fams.length:=by
  intro i hi
  obtain⟨k,hk⟩:=List.getElem?_of_mem hi
  have hk':k<st1.fams.length:=by rw [←lτ]; exact yj hk
  obtain⟨i',a1,_,a3⟩:=he.rnτ (List.getElem?_eq_getElem hk')
  rw [hk]at a1; injection a1 with a1; subst a1; exact yj a3
 obtain⟨uv0,uv1,uv2,uv3⟩:=V8 R.σ (st1'.vars.map (V.rens R)) st.vars he.nodupσ (O7 hlv) inσ
 obtain⟨uf0,uf1,uf2,uf3⟩:=V8 R.τ st1'.fams st.fams he.nodupτ hlf inτ
 have rnσ_lt:∀k,k<R.σ.length→∃i,R.σ[k]? =some i∧rn R.σ R.n k=i∧i<R.n:=by
  intro k hk
  obtain⟨i,a1,a2,a3⟩:=he.rnσ (k:=k) O0
  exact⟨i,a1,a2,O0⟩
 have rnσ_ge:∀k,R.σ.length≤k→rn R.σ R.n k=R.n+(k-R.σ.length):=by
  intro k hk; simp [rn,List.getElem?_eq_none hk]
 have rnτ_lt:∀k,k<R.τ.length→∃i,R.τ[k]? =some i∧rn R.τ R.m k=i∧i<R.m:=by
  intro k hk
  obtain⟨i,a1,a2,a3⟩:=he.rnτ (List.getElem?_eq_getElem (by omega:k<st1.fams.length))
  exact⟨i,a1,a2,by have:=yj a3; omega⟩
 have rnτ_ge:∀k,R.τ.length≤k→rn R.τ R.m k=R.m+(k-R.τ.length):=by
  intro k hk; simp [rn,List.getElem?_eq_none hk]
 have getv:∀k,k<st1'.vars.length→(St.after R st st1').vars[rn R.σ R.n k]? =(st1'.vars[k]?).map (V.rens R):=by
  intro k hk
  rcases Nat.lt_or_ge k R.σ.length with h'|h'
  ·obtain⟨i,a1,a2,_⟩:=rnσ_lt k h'
   rw [a2]; show(upd _ _ _)[i]? =_; rw [uv1 k i a1,List.getElem?_map]
  ·rw [rnσ_ge k h',ln]; show(upd _ _ _)[_]? =_
   rw [uv3,List.getElem?_map]; congr 2; omega
 have getf:∀k p,st1'.fams[k]? =some p→(St.after R st st1').fams[rn R.τ R.m k]? =some p:=by
  intro k p hk
  rcases Nat.lt_or_ge k R.τ.length with h'|h'
  ·obtain⟨i,a1,a2,_⟩:=rnτ_lt k h'
   rw [a2]; show(upd _ _ _)[i]? =_; rw [uf1 k i a1,hk]
  ·rw [rnτ_ge k h',lm]; show(upd _ _ _)[_]? =_
   rw [uf3,show R.τ.length+(k-R.τ.length)=k by omega,hk]
 have casev:∀i cs,(St.after R st st1').vars[i]? =some cs→(∃k cs1,st1'.vars[k]? =some cs1∧cs=V.rens R cs1∧rn R.σ R.n k=i)∨(i<R.n∧i∉R.σ∧st.vars[i]? =some cs):=by
  intro i cs hcs
  have hcs':(upd R.σ (st1'.vars.map (V.rens R)) st.vars)[i]? =some cs:=hcs
  rcases Nat.lt_or_ge i st.vars.length with hi|hi
  ·by_cases hm:i∈R.σ
   ·obtain⟨k,hk⟩:=List.getElem?_of_mem hm
    rw [uv1 k i hk,List.getElem?_map]at hcs'
    obtain⟨cs1,h1,h2⟩:=Option.map_eq_some_iff.1 hcs'
    exact .inl ⟨k,cs1,h1,h2.symm,by simp [rn,hk]⟩
   ·rw [uv2 i hi hm]at hcs'
    exact .inr ⟨O0,hm,hcs'⟩
  ·have:i=st.vars.length+(i-st.vars.length):=O0
   rw [this,uv3,List.getElem?_map]at hcs'
   obtain⟨cs1,h1,h2⟩:=Option.map_eq_some_iff.1 hcs'
   exact .inl ⟨_,cs1,h1,h2.symm,by rw [rnσ_ge _ O0]; omega⟩
 have casef:∀t p,(St.after R st st1').fams[t]? =some p→(∃k,st1'.fams[k]? =some p∧rn R.τ R.m k=t)∨(t<R.m∧t∉R.τ∧st.fams[t]? =some p):=by
  intro i cs hcs
  have hcs':(upd R.τ st1'.fams st.fams)[i]? =some cs:=hcs
  rcases Nat.lt_or_ge i st.fams.length with hi|hi
  ·by_cases hm:i∈R.τ
   ·obtain⟨k,hk⟩:=List.getElem?_of_mem hm
    rw [uf1 k i hk]at hcs'
    exact .inl ⟨k,hcs',by simp [rn,hk]⟩
   ·rw [uf2 i hi hm]at hcs'
    exact .inr ⟨O0,hm,hcs'⟩
  ·have:i=st.fams.length+(i-st.fams.length):=O0
   rw [this,uf3]at hcs'
   exact .inl ⟨_,hcs',by rw [rnτ_ge _ O0]; omega⟩
 have gvar:∀k,k<st1'.vars.length→G1.var k=(G.push G1 R).var (rn R.σ R.n k):=by
  intro k hk
  rcases Nat.lt_or_ge k R.σ.length with h'|h'
  ·obtain⟨i,a1,a2,a3⟩:=rnσ_lt k h'
   rw [hext.var k O0]
   simp only [Gh.pull,Gh.push,a2,if_pos a3]
  ·rw [rnσ_ge k h']
   simp only [Gh.push]
   rw [if_neg O0]
   congr 1; omega
 have gtip:∀k p,k<st1'.fams.length→G1.tip k p=(G.push G1 R).tip (rn R.τ R.m k) p:=by
  intro k p hk
  rcases Nat.lt_or_ge k R.τ.length with h'|h'
  ·obtain⟨i,a1,a2,a3⟩:=rnτ_lt k h'
   have hex:∃k,R.τ[k]? =some i:=⟨k,a1⟩
   simp only [Gh.push,a2,if_pos a3,dif_pos hex]
   rw [WN he.nodupτ (Classical.choose_spec hex) a1]
  ·rw [rnτ_ge k h']
   simp only [Gh.push]
   rw [if_neg O0]
   congr 1; omega
 have groom:∀k,k<st1'.vars.length→G1.room k=(G.push G1 R).room (rn R.σ R.n k):=by
  intro k hk
  rcases Nat.lt_or_ge k R.σ.length with h'|h'
  ·obtain⟨i,a1,a2,a3⟩:=rnσ_lt k h'
   rw [hext.room k O0]
   simp only [Gh.pull,Gh.push,a2,if_pos a3]
  ·rw [rnσ_ge k h']
   simp only [Gh.push]
   rw [if_neg O0]
   congr 1; omega
 have hpull:Qg R st1' G1 (G.push G1 R):=⟨fun _ _=>rfl,gvar,fun k p q hq _=>gtip k p (yj hq),groom⟩
 have embL:∀(k:Nat) (cs:List V),st1.vars[k]? =some cs→V.gone cs=false→∃i d,R.σ[k]? =some i∧rn R.σ R.n k=i∧st.vars[i]? =some d∧V.gone d=false:=by
  intro k cs hk hn
  obtain⟨_,i,d,a1,a2,a3⟩:=he.vars k cs hk
  exact⟨i,d,a1,by simp [rn,a1],a2,a3.live hn⟩
 have hExt:Ext st G (G.push G1 R):=by
  refine⟨fun b i v hv=>hext.imm b i v hv,fun id hid=>by simp only [Gh.push]; rw [if_pos O0], ?_,fun id hid=>by simp only [Gh.push]; rw [if_pos O0]⟩
  intro t p q hq hp
  have hlt:=yj hq
  simp only [Gh.push]
  rw [if_pos O0]
  split
  ·rename_i hex
   have hk:=Classical.choose_spec hex
   generalize Classical.choose hex=k at hk
   have hk':k<st1.fams.length:=by rw [←lτ]; exact yj hk
   obtain⟨i,a1,a2,a3⟩:=he.rnτ (List.getElem?_eq_getElem hk')
   rw [hk]at a1; injection a1 with a1; subst a1
   rw [hq]at a3; injection a3 with a3
   rw [hext.tip k p q (by rw [a3]; exact List.getElem?_eq_getElem hk') hp]
   simp only [Gh.pull,a2]
  ·rfl
 have hLe:st.le (St.after R st st1'):=by
  refine⟨by show _≤(upd _ _ _).length; rw [uv0]; omega, ?_⟩
  intro t p hp
  by_cases hm:t∈R.τ
  ·obtain⟨k,hk⟩:=List.getElem?_of_mem hm
   have hk':k<st1.fams.length:=by rw [←lτ]; exact yj hk
   obtain⟨i,a1,a2,a3⟩:=he.rnτ (List.getElem?_eq_getElem hk')
   rw [hk]at a1; injection a1 with a1; subst a1
   rw [hp]at a3; injection a3 with a3
   obtain⟨q,h1,h2⟩:=hle.fams k p (by rw [a3]; exact List.getElem?_eq_getElem hk')
   exact⟨q,by show(upd _ _ _)[t]? =_; rw [uf1 k t hk]; exact h1,h2⟩
  ·exact⟨p,by show(upd _ _ _)[t]? =_; rw [uf2 t (yj hp) hm]; exact hp,Nat.le_refl _⟩
 have mine1:∀b,S1 b→w0.mine b:=by
  rintro b (⟨k,cs,hk,hn,hb⟩|⟨k,p,e,l,hp,hb⟩)
  ·obtain⟨i,d,a1,a2,a3,a4⟩:=embL k cs hk hn
   rw [a2]at hb
   obtain⟨b',o,h1,h2,_⟩:=hr.vars i d a3 a4
   rw [hb]at h1; injection h1 with h1; subst h1; exact h2
  ·obtain⟨i,a1,a2,a3⟩:=he.rnτ hp
   rw [a2]at hb
   exact(hr.fam i p b e l a3 hb).1
 have mineB:∀b,B.mine b→w0.mine b:=by
  rintro b (h1|h1)
  ·exact .inl (Nat.le_trans hr.below.size h1)
  ·exact mine1 b h1
 have oldv:∀(i b:Nat) (cs:List V),i<R.n→i∉R.σ→st.vars[i]? =some cs→V.gone cs=false→G.var i=some b→¬B.mine b:=by
  rintro i b cs hi hm hcs hn hb (h1|h1)
  ·have:=hr.var_lt (id:=i) O0 hb
   exact absurd this (Nat.not_lt.2 h1)
  ·rcases h1 with⟨k,cs1,hk,hn1,hb'⟩|⟨k,p,e,l,hp,hb'⟩
   ·obtain⟨i',d,a1,a2,a3,a4⟩:=embL k cs1 hk hn1
    rw [a2]at hb'
    have:=hr.disj i i' b _ _ hcs hn a3 a4 hb hb'
    subst this
    exact hm (List.mem_of_getElem? a1)
   ·obtain⟨i',a1,a2,a3⟩:=he.rnτ hp
    rw [a2]at hb'
    obtain⟨_,_,_,_,_,_,h6⟩:=hr.fam i' p b e l a3 hb'
    exact h6 i cs hcs hn hb
 have oldf:∀t p b e l,t∉R.τ→st.fams[t]? =some p→G.tip t p=some (b,e,l)→¬B.mine b:=by
  rintro t p b e l hm ht hb (h1|h1)
  ·obtain⟨_,C,el,h3,_⟩:=hr.fam t p b e l ht hb
   exact absurd (qA h3) (Nat.not_lt.2 h1)
  ·rcases h1 with⟨k,cs1,hk,hn1,hb'⟩|⟨k,p',e',l',hp,hb'⟩
   ·obtain⟨i',d,a1,a2,a3,a4⟩:=embL k cs1 hk hn1
    rw [a2]at hb'
    obtain⟨_,_,_,_,_,_,h6⟩:=hr.fam t p b e l ht hb
    exact h6 i' d a3 a4 hb'
   ·obtain⟨i',a1,a2,a3⟩:=he.rnτ hp
    rw [a2]at hb'
    have:=hr.famdisj t i' p p' b e l e' l' ht a3 hb hb'
    subst this
    exact hm (List.mem_of_getElem? a1)
 have heapOld:∀b,b<w.heap.size→¬B.mine b→w'.heap[b]? =w.heap[b]? :=fun b hb hm=>hrel.below.heap b hb (fun h=>hm (.inr h))
 have oldtip:∀t p,t<R.m→t∉R.τ→(G.push G1 R).tip t p=G.tip t p:=by
  intro t p ht hm
  simp only [Gh.push,if_pos ht]
  rw [dif_neg]
  rintro⟨k,hk⟩
  exact hm (List.mem_of_getElem? hk)
 have oldvar:∀i,i<R.n→(G.push G1 R).var i=G.var i:=by intro i hi; simp only [Gh.push,if_pos hi]
 have scAfter:=V.sc_after (R:=R) (st:=st) (st1:=st1') (by
  intro k hk
  have:=getv k hk
  rw [List.getElem?_eq_getElem hk]at this
  exact yj this) getf
 have scsAfter:∀l,V.scs st1' l→V.scs (St.after R st st1') (V.rens R l):=by
  intro l hl
  rw [V.scs_iff]at hl ⊢
  intro v hv
  obtain⟨j,hj⟩:=List.getElem?_of_mem hv
  rw [V.rens_get]at hj
  obtain⟨u,hu,rfl⟩:=Option.map_eq_some_iff.1 hj
  exact scAfter u (hl u (List.mem_of_getElem? hu))
 have varN:∀k i b,k<st1'.vars.length→rn R.σ R.n k=i→(G.push G1 R).var i=some b→G1.var k=some b:=by
  intro k i b hk hi hb; rw [gvar k hk,hi]; exact hb
 have mineV:∀(k b:Nat) (cs:List V),st1'.vars[k]? =some cs→V.gone cs=false→G1.var k=some b→B.mine b:=by
  intro k b cs hk hn hb
  obtain⟨b',o,h1,h2,_⟩:=hrel.vars k cs hk hn
  rw [hb]at h1; injection h1 with h1; subst h1; exact h2
 refine⟨V.ren R r,c,St.after R st st1',G.push G1 R,rfl,⟨r,st1',hq,rfl,rfl⟩,(hpull.vr hsr).1 hvr,scAfter r hsr, ?_,hExt,hLe⟩
 exact {
  below:=hr.below.step hrel.below.os hrel.below.tape hrel.below.output hrel.below.size (fun k hk hm=>heapOld k hk (fun h=>hm (mineB k h)))
  vars:=by
   intro i cs hcs hn
   rcases casev i cs hcs with⟨k,cs1,h1,rfl,h3⟩|⟨h1,h2,h3⟩
   ·have hn1:V.gone cs1=false:=by rw [V.gone_rens]at hn; exact hn
    obtain⟨b,o,k1,k2,k3,k4,k5⟩:=hrel.vars k cs1 h1 hn1
    refine⟨b,o,by rw [←h3,←gvar k (yj h1)]; exact k1,mineB b k2,k3, ?_,k5⟩
    rw [←h3,←groom k (yj h1)]
    exact(hpull.vo (hrel.sc k cs1 h1)).1 k4
   ·obtain ⟨b,o,k1,k2,k3,k4,k5⟩:=hr.vars i cs h3 hn
    have hm:=oldv i b cs h1 h2 h3 hn k1
    refine⟨b,o,by rw [oldvar i h1]; exact k1,k2,by rw [heapOld b (qA k3) hm]; exact k3, ?_, ?_⟩
    ·rw [hExt.room i O0]; exact k4.ext hExt (hr.sc i cs h3)
    ·intro j
     show G1.imm b j=none
     rw [hrel.old b j hm]; exact k5 j
  varlt:=by
   intro i b hi hb
   have hsz:w.heap.size≤w'.heap.size:=hrel.below.size
   rcases Nat.lt_or_ge i R.n with h'|h'
   ·rw [oldvar i h']at hb
    exact Nat.lt_of_lt_of_le (hr.varlt i b O0 hb) hsz
   ·have hi':i<(upd R.σ (st1'.vars.map (V.rens R)) st.vars).length:=hi
    have:=casev i _ (List.getElem?_eq_getElem hi)
    rcases this with⟨k,cs1,h1,_,h3⟩|⟨h1,_⟩
    ·exact hrel.varlt k b (yj h1) (varN k i b (yj h1) h3 hb)
    ·omega
  sc:=by
   intro i cs hcs
   rcases casev i cs hcs with⟨k,cs1,h1,rfl,h3⟩|⟨h1,h2,h3⟩
   ·exact scsAfter cs1 (hrel.sc k cs1 h1)
   ·exact V.scs_mono hLe cs (hr.sc i cs h3)
  disj:=by
   intro i j b ci cj hi hni hj hnj h1 h2
   rcases casev i _ hi with⟨k,cs1,a1,q1,a3⟩|⟨a1,a2,a3⟩<;>rcases casev j _ hj with⟨k',cs1',b1,q2,b3⟩|⟨b1,b2,b3⟩
   ·have n1:V.gone cs1=false:=by rw [q1,V.gone_rens]at hni; exact hni
    have n2:V.gone cs1'=false:=by rw [q2,V.gone_rens]at hnj; exact hnj
    have:=hrel.disj k k' b _ _ a1 n1 b1 n2 (varN k i b (yj a1) a3 h1) (varN k' j b (yj b1) b3 h2)
    subst this; exact a3.symm.trans b3
   ·have n1:V.gone cs1=false:=by rw [q1,V.gone_rens]at hni; exact hni
    rw [oldvar j b1]at h2
    exact absurd (mineV k b cs1 a1 n1 (varN k i b (yj a1) a3 h1)) (oldv j b cj b1 b2 b3 hnj h2)
   ·have n2:V.gone cs1'=false:=by rw [q2,V.gone_rens]at hnj; exact hnj
    rw [oldvar i a1]at h1
    exact absurd (mineV k' b cs1' b1 n2 (varN k' j b (yj b1) b3 h2)) (oldv i b ci a1 a2 a3 hni h1)
   ·rw [oldvar i a1]at h1
    rw [oldvar j b1]at h2
    exact hr.disj i j b _ _ a3 hni b3 hnj h1 h2
  imm:=by
   intro b i v hv'
   obtain⟨hp,c,hc,hrv⟩:=hrel.imm b i v hv'
   exact⟨hp,c,hc,VR.pure_ext (G:=G1) (G':=G.push G1 R) (fun _ _ _ x=>x) hrv (V.pure_of_pcell hp)⟩
  fam :=by
   intro t p b e lim ht h1
   rcases casef t p ht with⟨k,a1,a2⟩|⟨a1,a2,a3⟩
   ·rw [←a2,←gtip k p (yj a1)]at h1
    obtain⟨k2,C,el,k3,k4,k5,k6⟩:=hrel.fam k p b e lim a1 h1
    refine⟨mineB b k2,C,el,k3,k4,k5, ?_⟩
    intro id cs hid hn hb
    rcases casev id _ hid with⟨k',cs1,b1,q1,b3⟩|⟨b1,b2,b3⟩
    ·exact k6 k' cs1 b1 (by rw [q1,V.gone_rens]at hn; exact hn) (varN k' id b (yj b1) b3 hb)
    ·rw [oldvar id b1]at hb
     exact oldv id b cs b1 b2 b3 hn hb k2
   ·rw [oldtip t p a1 a2]at h1
    obtain⟨k2,C,el,k3,k4,k5,k6⟩:=hr.fam t p b e lim a3 h1
    have hm:=oldf t p b e lim a2 a3 h1
    refine⟨k2,C,el,by rw [heapOld b (qA k3) hm]; exact k3,k4, ?_, ?_⟩
    ·intro i hi
     show G1.imm b i=none
     rw [hrel.old b i hm]; exact k5 i hi
    ·intro id cs hid hn hb
     rcases casev id _ hid with⟨k',cs1,b1,q1,b3⟩|⟨b1,b2,b3⟩
     ·exact hm (mineV k' b cs1 b1 (by rw [q1,V.gone_rens]at hn; exact hn) (varN k' id b (yj b1) b3 hb))
     ·rw [oldvar id b1]at hb
      exact k6 id cs b3 hn hb
  famdisj:=by
   intro t t' p p' b e l e' l' h1 h2 g1 g2
   rcases casef t p h1 with⟨k,a1,a2⟩|⟨a1,a2,a3⟩<;>rcases casef t' p' h2 with⟨k',b1,b2⟩|⟨b1,b2,b3⟩
   ·rw [←a2,←gtip k p (yj a1)]at g1
    rw [←b2,←gtip k' p' (yj b1)]at g2
    have:=hrel.famdisj k k' p p' b e l e' l' a1 b1 g1 g2
    subst this; exact a2.symm.trans b2
   ·rw [←a2,←gtip k p (yj a1)]at g1
    rw [oldtip t' p' b1 b2]at g2
    exact absurd (hrel.fam k p b e l a1 g1).1 (oldf t' p' b e' l' b2 b3 g2)
   ·rw [←b2,←gtip k' p' (yj b1)]at g2
    rw [oldtip t p a1 a2]at g1
    exact absurd (hrel.fam k' p' b e' l' b1 g2).1 (oldf t p b e l a2 a3 g1)
   ·rw [oldtip t p a1 a2]at g1
    rw [oldtip t' p' b1 b2]at g2
    exact hr.famdisj t t' p p' b e l e' l' a3 b3 g1 g2
  glob:=fun g i v hv=>hext.imm g i v (hr.glob g i v hv)
  gfix:=hr.gfix
  old:=by
   intro b i hm
   have hm':¬B.mine b:=fun h=>hm (mineB b h)
   show G1.imm b i=_
   rw [hrel.old b i hm']
   exact hr.old b i hm}
end
end Go.Abs
end
