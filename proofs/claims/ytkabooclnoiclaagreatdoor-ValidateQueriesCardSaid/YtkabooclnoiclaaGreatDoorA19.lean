/- Abstract values. No condition. -/
import Derived.Test.YtkabooclnoiclaaGreatDoorA18
set_option linter.all false
noncomputable section
namespace Go.Abs
open Go.RowKit (Below)
def upd {α:Type}:List Nat->List α->List α->List α
 |i::σ,x::new,old=>upd σ new (old.set i x)
 |_,new,old=>old++new
def Uv {α:Type}:∀(σ:List Nat) (new old:List α),σ.Nodup->σ.length<=new.length->(∀i∈σ,i<old.length) ->
  (upd σ new old).length=old.length+(new.length-σ.length) ∧
  (∀(k i:Nat),σ[k]? =some i->(upd σ new old)[i]? =new[k]?) ∧
  (∀(i:Nat),i<old.length->i∉σ->(upd σ new old)[i]? =old[i]?) ∧
  (∀(j:Nat),(upd σ new old)[old.length+j]? =new[σ.length+j]?)
 | [],new,old,_,_,_=>by
  have p:upd [] new old=old++new:=by cases new<;>rfl
  rw [p];refine⟨O2,O2,fun i o _=>iU o,fun j=> ?_⟩;rw [List.getElem?_append_right O0]
  congr 1; simp
 |i::σ,[],old,_,f,_=>by simp at f
 | i ::σ,x::new,old,h,f,g=>by
  simp only [List.nodup_cons]at h;obtain⟨l,n,b,m⟩:=Uv σ new (old.set i x) h.2 (O7 f) (fun j c=>by simpa using g j (List.mem_cons_of_mem _ c));simp only [upd];simp only [List.length_set]at l b m;refine⟨by rw [l]; simp, ?_, ?_, ?_⟩
  ·intro k j e
   cases k with
   | zero=>
    simp at e; subst e;rw [b _ (g _ O2) h.1];simp [g i O2]
   |succ k=>simpa using n k j (O7 e)
  ·intro j c a;simp only [List.mem_cons,not_or]at a;rw [b j c a.2,List.getElem?_set_ne (Ne.symm a.1)]
  ·intro j;rw [m j];have:(i::σ).length+j=(σ.length+j)+1:=O3;rw [this,List.getElem?_cons_succ]
def St.after (R:Ren) (st st1:St):St:=⟨upd R.σ (st1.vars.map (V.rens R)) st.vars,upd R.τ st1.fams st.fams⟩
section
variable {P:Program} {gl:Nat->List V}
open Classical in
def Gh.push (G G1:Gh) (R:Ren):Gh where
 imm:=G1.imm
 var:=fun i=>if i<R.n then G.var i else G1.var (R.σ.length+(i-R.n))
 tip:=fun t p=>if t<R.m then(if h:∃k,R.τ[k]? =some t then G1.tip (Classical.choose h) p else G.tip t p)else G1.tip (R.τ.length+(t-R.m)) p
 room:=fun i=>if i<R.n then G.room i else G1.room (R.σ.length+(i-R.n))
def V.sc_after {R:Ren} {st st1:St} (c:∀k,k<st1.vars.length->rn R.σ R.n k<(St.after R st st1).vars.length) (w:∀(k p:Nat),st1.fams[k]? =some p->(St.after R st st1).fams[rn R.τ R.m k]? =some p):
  ∀(v:V),V.sc st1 v->V.sc (St.after R st st1) (V.ren R v):=by
 intro v
 refine V.rec (motive_1:=fun v=>V.sc st1 v->V.sc (St.after R st st1) (V.ren R v)) (motive_2:=fun l=>V.scs st1 l->V.scs (St.after R st st1) (V.rens R l)) (motive_3:=fun _=>True)
  ?_ ?_ ?_ ?_ ?_ ?_ ?_ ?_ ?_ ?_ ?_ ?_ ?_ ?_ ?_ ?_ ?_ ?_ ?_ ?_ ?_ ?_ ?_ ?_ ?_ ?_ ?_ v
 all_goals try (intros; trivial)
 ·intro id i h; simp only [V.sc,V.ren]at *; exact c _ h
 ·intro m z j _ h
  cases j with
  | fam t p=>
   simp only [V.sc,V.ren]at *;obtain⟨q,y,x⟩:=h;exact⟨q,w t q y,x⟩
  |_=>simp [V.sc,V.ren]
 ·intro id i len cap m h; simp only [V.sc,V.ren]at *; exact c _ h
 ·intro fn a b r s h; simp only [V.sc,V.ren]at *; exact⟨r h.1,s h.2⟩
 ·intro o e h; simp only [V.sc,V.ren]at *; exact e h
 ·intro o e h; simp only [V.sc,V.ren]at *; exact e h
 ·intro id n m h; simp only [V.sc,V.ren]at *; exact c _ h
 ·intro id h; simp only [V.sc,V.ren]at *; exact c _ h
 ·intro id h; simp only [V.sc,V.ren]at *; exact c _ h
 ·intro t v e h; simp only [V.sc,V.ren]at *; exact e h
 ·intro v A f g h; simp only [V.scs,V.rens]at *; exact⟨f h.1,g h.2⟩
def xO.frame {f:FuncId} {args args1:List V} {st st1:St} {R:Ren} {Q:V->St->Prop} (h:xO P gl f args1 st1 Q) (X:Emb R st1 st) (ha:bw (V.rens R args1) args) (hs:V.scs st1 args1):
  xO P gl f args st (fun r st'=>∃r1 a,Q r1 a∧r=V.ren R r1∧st'=St.after R st a):=by
 refine⟨h.1, ?_⟩;intro w0 G w cargs O hv hsc;let S1:Nat->Prop:=fun b=>(∃(k:Nat) (F:List V),st1.vars[k]? =some F∧V.gone F=false∧G.var (rn R.σ R.n k)=some b)∨(∃k p e l,st1.fams[k]? =some p∧G.tip (rn R.τ R.m k) p=some (b,e,l))
 let B:xi:=⟨w,S1,G.imm⟩
 have hsmall:Rel gl B (G.pull R) st1 w:=O.embed X (ZU.refl w S1 G.imm) (fun _ _ _=>rfl) (by
  intro g N K;obtain⟨s,C,el,fz,S,_⟩:=O.gfix g N;rcases K with K|⟨k,F,y,hgn,I⟩|⟨k,p,e,l,Y,ht⟩
  ·exact Nat.lt_irrefl _ (Nat.lt_of_lt_of_le (heap_lt S) (Nat.le_trans O.below.size K))
  ·obtain⟨_,i,d,m,E,z⟩:=X.vars k F y;have e1:rn R.σ R.n k=i:=by simp [rn,m]
   rw [e1]at I;obtain⟨b,o,k1,k2,_⟩:=O.vars i d E (z.live hgn);rw [I]at k1; cases k1;exact s k2
  ·obtain⟨i,m,E,z⟩:=X.rnτ Y;rw [E]at ht
   exact s (O.fam i p g e l z ht).1) (fun k b F y N I=> .inr (.inl ⟨k,F,y,N,I⟩)) (fun k p b e l Y ht=> .inr (.inr ⟨k,p,e,l,Y,ht⟩))
 refine(h.2 B (G.pull R) w cargs hsmall (((G.pull_pull R st1).vrs hs).2 (ha.vrs hv)) hs).mono ?_;rintro e w' ⟨r,c,a,G1,rfl,hq,hvr,hsr,n,hext,hle⟩;have lσ:=X.lenσ;have lτ:=X.lenτ;have ln:=X.n;have lm:=X.m;have hlv:R.σ.length<=a.vars.length:=by rw [lσ]; exact hle.vars
 have hlf:R.τ.length<=a.fams.length:=by
  rw [lτ];rcases iS a.fams.length st1.fams.length with M|M
  ·obtain⟨q,hq,_⟩:=hle.fams a.fams.length _ (iK M);exact absurd (zB hq) (Nat.lt_irrefl _)
  ·exact M
 have inσ:∀i∈R.σ,i<st.vars.length:=by
  intro i W;obtain⟨k,y⟩:=List.getElem?_of_mem W;obtain⟨i',m,_,z⟩:=X.rnσ (k:=k) (by rw [<-lσ]; exact zB y);rw [y]at m; cases m; exact z
 have inτ:∀i∈R.τ,i<st.fams.length:=by
  intro i W;obtain⟨k,y⟩:=List.getElem?_of_mem W;have hk':k<st1.fams.length:=by rw [<-lτ]; exact zB y
  obtain⟨i',m,_,z⟩:=X.rnτ (iK hk');rw [y]at m; cases m; exact zB z
 obtain⟨uv0,uv1,uv2,uv3⟩:=Uv R.σ (a.vars.map (V.rens R)) st.vars X.nodupσ (O7 hlv) inσ;obtain⟨uf0,uf1,uf2,uf3⟩:=Uv R.τ a.fams st.fams X.nodupτ hlf inτ
 have rnσ_lt:∀k,k<R.σ.length->∃i,R.σ[k]? =some i∧rn R.σ R.n k=i∧i<R.n:=by
  intro k y;obtain⟨i,m,E,z⟩:=X.rnσ (k:=k) O0;exact⟨i,m,E,O0⟩
 have rnσ_ge:∀k,R.σ.length<=k->rn R.σ R.n k=R.n+(k-R.σ.length):=by
  intro k y; simp [rn,iN y]
 have rnτ_lt:∀k,k<R.τ.length->∃i,R.τ[k]? =some i∧rn R.τ R.m k=i∧i<R.m:=by
  intro k y;obtain⟨i,m,E,z⟩:=X.rnτ (iK (by omega:k<st1.fams.length));exact⟨i,m,E,by have:=zB z; omega⟩
 have rnτ_ge:∀k,R.τ.length<=k->rn R.τ R.m k=R.m+(k-R.τ.length):=by
  intro k y; simp [rn,iN y]
 have getv:∀k,k<a.vars.length->(St.after R st a).vars[rn R.σ R.n k]? =(a.vars[k]?).map (V.rens R):=by
  intro k y;rcases iS k R.σ.length with M|M
  ·obtain⟨i,m,E,_⟩:=rnσ_lt k M;rw [E]; show(upd _ _ _)[i]? =_; rw [uv1 k i m,iV]
  ·rw [rnσ_ge k M,ln]; show(upd _ _ _)[_]? =_;rw [uv3,iV]; congr 2; omega
 have getf:∀k p,a.fams[k]? =some p->(St.after R st a).fams[rn R.τ R.m k]? =some p:=by
  intro k p y;rcases iS k R.τ.length with M|M
  ·obtain⟨i,m,E,_⟩:=rnτ_lt k M;rw [E]; show(upd _ _ _)[i]? =_; rw [uf1 k i m,y]
  ·rw [rnτ_ge k M,lm]; show(upd _ _ _)[_]? =_;rw [uf3,show R.τ.length+(k-R.τ.length)=k by omega,y]
 have casev:∀i F,(St.after R st a).vars[i]? =some F->(∃k A,a.vars[k]? =some A∧F=V.rens R A∧rn R.σ R.n k=i)∨(i<R.n∧i∉R.σ∧st.vars[i]? =some F):=by
  intro i F U;have H:(upd R.σ (a.vars.map (V.rens R)) st.vars)[i]? =some F:=U;rcases iS i st.vars.length with W|W
  ·by_cases K:i∈R.σ
   ·obtain⟨k,y⟩:=List.getElem?_of_mem K;rw [uv1 k i y,iV]at H;obtain⟨A,s,S⟩:=iR.1 H;exact .inl ⟨k,A,s,S.symm,by simp [rn,y]⟩
   ·rw [uv2 i W K]at H;exact .inr ⟨O0,K,H⟩
  ·have:i=st.vars.length+(i-st.vars.length):=O0;rw [this,uv3,iV]at H;obtain⟨A,s,S⟩:=iR.1 H;exact .inl ⟨_,A,s,S.symm,by rw [rnσ_ge _ O0]; omega⟩
 have casef:∀t p,(St.after R st a).fams[t]? =some p->(∃k,a.fams[k]? =some p∧rn R.τ R.m k=t)∨(t<R.m∧t∉R.τ∧st.fams[t]? =some p):=by
  intro i F U;have H:(upd R.τ a.fams st.fams)[i]? =some F:=U;rcases iS i st.fams.length with W|W
  ·by_cases K:i∈R.τ
   ·obtain⟨k,y⟩:=List.getElem?_of_mem K;rw [uf1 k i y]at H;exact .inl ⟨k,H,by simp [rn,y]⟩
   ·rw [uf2 i W K]at H;exact .inr ⟨O0,K,H⟩
  ·have:i=st.fams.length+(i-st.fams.length):=O0;rw [this,uf3]at H;exact .inl ⟨_,H,by rw [rnτ_ge _ O0]; omega⟩
 have gvar:∀k,k<a.vars.length->G1.var k=(G.push G1 R).var (rn R.σ R.n k):=by
  intro k y;rcases iS k R.σ.length with M|M
  ·obtain⟨i,m,E,z⟩:=rnσ_lt k M;rw [hext.var k O0];simp only [Gh.pull,Gh.push,E,iI z]
  ·rw [rnσ_ge k M];simp only [Gh.push];rw [iH O0]
   congr 1; omega
 have gtip:∀k p,k<a.fams.length->G1.tip k p=(G.push G1 R).tip (rn R.τ R.m k) p:=by
  intro k p y;rcases iS k R.τ.length with M|M
  ·obtain⟨i,m,E,z⟩:=rnτ_lt k M;have hex:∃k,R.τ[k]? =some i:=⟨k,m⟩
   simp only [Gh.push,E,iI z,dif_pos hex];rw [X2 X.nodupτ (Classical.choose_spec hex) m]
  ·rw [rnτ_ge k M];simp only [Gh.push];rw [iH O0]
   congr 1; omega
 have groom:∀k,k<a.vars.length->G1.room k=(G.push G1 R).room (rn R.σ R.n k):=by
  intro k y;rcases iS k R.σ.length with M|M
  ·obtain⟨i,m,E,z⟩:=rnσ_lt k M;rw [hext.room k O0];simp only [Gh.pull,Gh.push,E,iI z]
  ·rw [rnσ_ge k M];simp only [Gh.push];rw [iH O0]
   congr 1; omega
 have hpull:Gg R a G1 (G.push G1 R):=⟨fun _ _=>rfl,gvar,fun k p q hq _=>gtip k p (zB hq),groom⟩
 have embL:∀(k:Nat) (F:List V),st1.vars[k]? =some F->V.gone F=false->∃i d,R.σ[k]? =some i∧rn R.σ R.n k=i∧st.vars[i]? =some d∧V.gone d=false:=by
  intro k F y N;obtain⟨_,i,d,m,E,z⟩:=X.vars k F y;exact⟨i,d,m,by simp [rn,m],E,z.live N⟩
 have hExt:Ext st G (G.push G1 R):=by
  refine⟨fun b i v hv=>hext.imm b i v hv,fun id hid=>by simp only [Gh.push]; rw [iI O0], ?_,fun id hid=>by simp only [Gh.push]; rw [iI O0]⟩;intro t p q hq Y;have hlt:=zB hq;simp only [Gh.push];rw [iI O0];split
  ·rename_i hex;have y:=Classical.choose_spec hex;generalize Classical.choose hex=k at y;have hk':k<st1.fams.length:=by rw [<-lτ]; exact zB y
   obtain⟨i,m,E,z⟩:=X.rnτ (iK hk');rw [y]at m; cases m;rw [hq]at z; injection z with z;rw [hext.tip k p q (by rw [z]; exact iK hk') Y];simp only [Gh.pull,E]
  ·rfl
 have hLe:st.le (St.after R st a):=by
  refine⟨by show _<=(upd _ _ _).length; rw [uv0]; omega, ?_⟩;intro t p Y
  by_cases K:t∈R.τ
  ·obtain⟨k,y⟩:=List.getElem?_of_mem K;have hk':k<st1.fams.length:=by rw [<-lτ]; exact zB y
   obtain⟨i,m,E,z⟩:=X.rnτ (iK hk');rw [y]at m; cases m;rw [Y]at z; injection z with z;obtain⟨q,s,S⟩:=hle.fams k p (by rw [z]; exact iK hk');exact⟨q,by show(upd _ _ _)[t]? =_; rw [uf1 k t y]; exact s,S⟩
  ·exact⟨p,by show(upd _ _ _)[t]? =_; rw [uf2 t (zB Y) K]; exact Y,iP _⟩
 have mine1:∀b,S1 b->w0.mine b:=by
  rintro b (⟨k,F,y,N,I⟩|⟨k,p,e,l,Y,I⟩)
  ·obtain⟨i,d,m,E,z,a4⟩:=embL k F y N;rw [E]at I;obtain⟨b',o,s,S,_⟩:=O.vars i d z a4;rw [I]at s; cases s; exact S
  ·obtain⟨i,m,E,z⟩:=X.rnτ Y;rw [E]at I;exact(O.fam i p b e l z I).1
 have mineB:∀b,B.mine b->w0.mine b:=by
  rintro b (s|s)
  ·exact .inl (Nat.le_trans O.below.size s)
  ·exact mine1 b s
 have oldv:∀(i b:Nat) (F:List V),i<R.n->i∉R.σ->st.vars[i]? =some F->V.gone F=false->G.var i=some b->¬B.mine b:=by
  rintro i b F W K U N I (s|s)
  ·have:=O.var_lt (id:=i) O0 I;exact absurd this (Nat.not_lt.2 s)
  ·rcases s with⟨k,A,y,hn1,T⟩|⟨k,p,e,l,Y,T⟩
   ·obtain⟨i',d,m,E,z,a4⟩:=embL k A y hn1;rw [E]at T;have:=O.disj i i' b _ _ U N z a4 I T;subst this;exact K (iQ m)
   ·obtain⟨i',m,E,z⟩:=X.rnτ Y;rw [E]at T;obtain⟨_,_,_,_,_,_,h6⟩:=O.fam i' p b e l z T;exact h6 i F U N I
 have oldf:∀t p b e l,t∉R.τ->st.fams[t]? =some p->G.tip t p=some (b,e,l)->¬B.mine b:=by
  rintro t p b e l K ht I (s|s)
  ·obtain⟨_,C,el,h3,_⟩:=O.fam t p b e l ht I;exact absurd (heap_lt h3) (Nat.not_lt.2 s)
  ·rcases s with⟨k,A,y,hn1,T⟩|⟨k,p',e',l',Y,T⟩
   ·obtain⟨i',d,m,E,z,a4⟩:=embL k A y hn1;rw [E]at T;obtain⟨_,_,_,_,_,_,h6⟩:=O.fam t p b e l ht I;exact h6 i' d z a4 T
   ·obtain⟨i',m,E,z⟩:=X.rnτ Y;rw [E]at T;have:=O.famdisj t i' p p' b e l e' l' ht z I T;subst this;exact K (iQ m)
 have heapOld:∀b,b<w.heap.size->¬B.mine b->w'.heap[b]? =w.heap[b]? :=fun b I K=>n.below.heap b I (fun h=>K (.inr h))
 have oldtip:∀t p,t<R.m->t∉R.τ->(G.push G1 R).tip t p=G.tip t p:=by
  intro t p ht K;simp only [Gh.push,iI ht];rw [dif_neg];rintro⟨k,y⟩;exact K (iQ y)
 have oldvar:∀i,i<R.n->(G.push G1 R).var i=G.var i:=by intro i W; simp only [Gh.push,iI W]
 have scAfter:=V.sc_after (R:=R) (st:=st) (st1:=a) (by
  intro k y;have:=getv k y;rw [iK y]at this
  exact zB this) getf
 have scsAfter:∀l,V.scs a l->V.scs (St.after R st a) (V.rens R l):=by
  intro l hl;rw [V.scs_iff]at hl ⊢;intro v hv;obtain⟨j,hj⟩:=List.getElem?_of_mem hv;rw [V.rens_get]at hj;obtain⟨u,hu,rfl⟩:=iR.1 hj;exact scAfter u (hl u (iQ hu))
 have varN:∀k i b,k<a.vars.length->rn R.σ R.n k=i->(G.push G1 R).var i=some b->G1.var k=some b:=by
  intro k i b y W I; rw [gvar k y,W]; exact I
 have mineV:∀(k b:Nat) (F:List V),a.vars[k]? =some F->V.gone F=false->G1.var k=some b->B.mine b:=by
  intro k b F y N I;obtain⟨b',o,s,S,_⟩:=n.vars k F y N;rw [I]at s; cases s; exact S
 refine⟨V.ren R r,c,St.after R st a,G.push G1 R,rfl,⟨r,a,hq,rfl,rfl⟩,(hpull.vr hsr).1 hvr,scAfter r hsr, ?_,hExt,hLe⟩
 exact {
  below:=O.below.step n.below.os n.below.tape n.below.output n.below.size (fun k y K=>heapOld k y (fun h=>K (mineB k h)))
  vars:=by
   intro i F U N;rcases casev i F U with⟨k,A,s,rfl,h3⟩|⟨s,S,h3⟩
   ·have hn1:V.gone A=false:=by rw [V.gone_rens]at N; exact N
    obtain⟨b,o,k1,k2,k3,k4,k5⟩:=n.vars k A s hn1;refine⟨b,o,by rw [<-h3,<-gvar k (zB s)]; exact k1,mineB b k2,k3, ?_,k5⟩;rw [<-h3,<-groom k (zB s)];exact(hpull.vo (n.sc k A s)).1 k4
   ·obtain ⟨b,o,k1,k2,k3,k4,k5⟩:=O.vars i F h3 N;have K:=oldv i b F s S h3 N k1;refine⟨b,o,by rw [oldvar i s]; exact k1,k2,by rw [heapOld b (heap_lt k3) K]; exact k3, ?_, ?_⟩
    ·rw [hExt.room i O0]; exact k4.ext hExt (O.sc i F h3)
    ·intro j;show G1.imm b j=none;rw [n.old b j K]; exact k5 j
  varlt:=by
   intro i b W I;have hsz:w.heap.size<=w'.heap.size:=n.below.size;rcases iS i R.n with M|M
   ·rw [oldvar i M]at I;exact Nat.lt_of_lt_of_le (O.varlt i b O0 I) hsz
   ·have hi':i<(upd R.σ (a.vars.map (V.rens R)) st.vars).length:=W;have:=casev i _ (iK W);rcases this with⟨k,A,s,_,h3⟩|⟨s,_⟩
    ·exact n.varlt k b (zB s) (varN k i b (zB s) h3 I)
    ·omega
  sc:=by
   intro i F U;rcases casev i F U with⟨k,A,s,rfl,h3⟩|⟨s,S,h3⟩
   ·exact scsAfter A (n.sc k A s)
   ·exact V.scs_mono hLe F (O.sc i F h3)
  disj:=by
   intro i j b ci cj W hni hj hnj s S;rcases casev i _ W with⟨k,A,m,q1,z⟩|⟨m,E,z⟩<;>rcases casev j _ hj with⟨k',cs1',L,q2,Z⟩|⟨L,b2,Z⟩
   ·have n1:V.gone A=false:=by rw [q1,V.gone_rens]at hni; exact hni
    have n2:V.gone cs1'=false:=by rw [q2,V.gone_rens]at hnj; exact hnj
    have:=n.disj k k' b _ _ m n1 L n2 (varN k i b (zB m) z s) (varN k' j b (zB L) Z S);subst this; exact z.symm.trans Z
   ·have n1:V.gone A=false:=by rw [q1,V.gone_rens]at hni; exact hni
    rw [oldvar j L]at S;exact absurd (mineV k b A m n1 (varN k i b (zB m) z s)) (oldv j b cj L b2 Z hnj S)
   ·have n2:V.gone cs1'=false:=by rw [q2,V.gone_rens]at hnj; exact hnj
    rw [oldvar i m]at s;exact absurd (mineV k' b cs1' L n2 (varN k' j b (zB L) Z S)) (oldv i b ci m E z hni s)
   ·rw [oldvar i m]at s;rw [oldvar j L]at S;exact O.disj i j b _ _ z hni Z hnj s S
  imm:=by
   intro b i v hv';obtain⟨Y,c,hc,hrv⟩:=n.imm b i v hv';exact⟨Y,c,hc,VR.pure_ext (G:=G1) (G':=G.push G1 R) (fun _ _ _ x=>x) hrv (V.pure_of_pcell Y)⟩
  fam :=by
   intro t p b e lim ht s;rcases casef t p ht with⟨k,m,E⟩|⟨m,E,z⟩
   ·rw [<-E,<-gtip k p (zB m)]at s;obtain⟨k2,C,el,k3,k4,k5,k6⟩:=n.fam k p b e lim m s;refine⟨mineB b k2,C,el,k3,k4,k5, ?_⟩;intro id F hid N I;rcases casev id _ hid with⟨k',A,L,q1,Z⟩|⟨L,b2,Z⟩
    ·exact k6 k' A L (by rw [q1,V.gone_rens]at N; exact N) (varN k' id b (zB L) Z I)
    ·rw [oldvar id L]at I;exact oldv id b F L b2 Z N I k2
   ·rw [oldtip t p m E]at s;obtain⟨k2,C,el,k3,k4,k5,k6⟩:=O.fam t p b e lim z s;have K:=oldf t p b e lim E z s;refine⟨k2,C,el,by rw [heapOld b (heap_lt k3) K]; exact k3,k4, ?_, ?_⟩
    ·intro i W;show G1.imm b i=none;rw [n.old b i K]; exact k5 i W
    ·intro id F hid N I;rcases casev id _ hid with⟨k',A,L,q1,Z⟩|⟨L,b2,Z⟩
     ·exact K (mineV k' b A L (by rw [q1,V.gone_rens]at N; exact N) (varN k' id b (zB L) Z I))
     ·rw [oldvar id L]at I;exact k6 id F Z N I
  famdisj:=by
   intro t t' p p' b e l e' l' s S g1 g2;rcases casef t p s with⟨k,m,E⟩|⟨m,E,z⟩<;>rcases casef t' p' S with⟨k',L,b2⟩|⟨L,b2,Z⟩
   ·rw [<-E,<-gtip k p (zB m)]at g1;rw [<-b2,<-gtip k' p' (zB L)]at g2;have:=n.famdisj k k' p p' b e l e' l' m L g1 g2;subst this; exact E.symm.trans b2
   ·rw [<-E,<-gtip k p (zB m)]at g1;rw [oldtip t' p' L b2]at g2;exact absurd (n.fam k p b e l m g1).1 (oldf t' p' b e' l' b2 Z g2)
   ·rw [<-b2,<-gtip k' p' (zB L)]at g2;rw [oldtip t p m E]at g1;exact absurd (n.fam k' p' b e' l' L g2).1 (oldf t p b e l E z g1)
   ·rw [oldtip t p m E]at g1;rw [oldtip t' p' L b2]at g2;exact O.famdisj t t' p p' b e l e' l' z Z g1 g2
  glob:=fun g i v hv=>hext.imm g i v (O.glob g i v hv)
  gfix:=O.gfix
  old:=by
   intro b i K;have hm':¬B.mine b:=fun h=>K (mineB b h);show G1.imm b i=_;rw [n.old b i hm']
   exact O.old b i K}
end
end Go.Abs
end
