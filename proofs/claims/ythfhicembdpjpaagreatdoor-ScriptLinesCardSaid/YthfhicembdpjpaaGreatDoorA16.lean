/- Abstract values: a part. No condition beyond each statement's own. -/
import Derived.Test.YthfhicembdpjpaaGreatDoorA15
set_option linter.all false
section
namespace Go.Abs
open Go.RowKit (Below)
section
variable {P:Program} {gl:Nat→List V} {ops:Array Oper} {n:Nat} {order E:List Nat} {B:List (List Nat)}
structure Gk (P:Program) (gl:Nat→List V) (ops:Array Oper) (n:Nat) (order E:List Nat) (B:List (List Nat)) (w0:qQ) (st0:St) (G0:Gh) (K:AFr→St→Prop) (listed:Array Bool) (rest seen:List Nat) (F:AFr) (st:St) (G:Gh) (w:World) (a:Act):Prop where
 size:listed.size=ops.size
 split:order=seen.reverse++rest
 headE:∀e r,rest=e::r→e∈E
 doneSeen:∀i,Dn listed i→i∈seen
 effDone:∀i∈seen,i∈E→Dn listed i
 closed:Jr ops listed
 inv:∀j∈seen,¬Dn listed j→ba P gl ops j F st
 ad:aD P gl ops E B rest seen F st K
 rel:Rel gl w0 G st w
 defers:a.defers= []
 tmps:a.tmps.size=F.n
 slot:∀t,(∀j∈seen,¬Dn listed j→uY ops j≠some t)→V.sc st (wh F.l t)∧VR G (wh F.l t) (a.tmps.getD t undef)
 n:F.n=n
 ext:Ext st0 G0 G
 le:st0.le st
theorem pT {listed:Array Bool} {i j:Nat} (hi:i<listed.size):Dn (listed.setIfInBounds i true) j↔j=i∨Dn listed j:=by
 unfold Dn
 by_cases h:i=j
 ·subst h; simp [hi]
 ·rw [getD_set_ne false h]
  constructor
  ·exact fun h=> .inr h
  ·rintro(rfl|h')
   ·exact absurd rfl h
   ·exact h'
theorem Jy {a:Act} {d t:Nat} {c:Value} (hd:d<a.tmps.size):(a.put (some d) c).tmps.getD t undef=if t=d then c else a.tmps.getD t undef:=by
 simp only [Act.put,Array.getD_eq_getD_getElem?,Array.getElem?_setIfInBounds]
 by_cases h:d=t
 ·subst h; simp [hd]
 ·rw [if_neg h,if_neg (Ne.symm h)]
def Xt (ops:Array Oper) (listed:Array Bool) (seen:List Nat) (F:AFr):AFr:=
 {F with l:=F.l.filter fun x=>seen.all fun j=>listed.getD j false|| !(uY ops j==some x.1)}
theorem Um {listed:Array Bool} {seen:List Nat} {F:AFr} {t:Nat} (h:∀j∈seen,¬Dn listed j→uY ops j≠some t):wh (Xt ops listed seen F).l t=wh F.l t:=by
 simp only [Xt,X3 (p:=fun x=>seen.all fun j=>listed.getD j false|| !(uY ops j==some x))]
 rw [if_pos]
 rw [List.all_eq_true]
 intro j hj
 by_cases hd:Dn listed j
 ·simp only [Dn]at hd; simp [hd]
 ·have:=h j hj hd
  simp [this]
theorem Gk.mask {w0:qQ} {st0:St} {G0:Gh} {K:AFr→St→Prop} {listed:Array Bool} {rest seen:List Nat} {F:AFr} {st:St} {G:Gh} {w:World} {a:Act}
  (h:Gk P gl ops n order E B w0 st0 G0 K listed rest seen F st G w a):vX G st (Xt ops listed seen F) a:=by
 refine⟨h.defers,h.tmps,fun t=> ?_⟩
 by_cases ht:∀j∈seen,¬Dn listed j→uY ops j≠some t
 ·rw [Um ht]; exact h.slot t ht
 ·have:wh (Xt ops listed seen F).l t= .junk:=by
   simp only [Xt,X3 (p:=fun x=>seen.all fun j=>listed.getD j false|| !(uY ops j==some x))]
   rw [if_neg]
   intro hall
   apply ht
   intro j hj hd he
   rw [List.all_eq_true]at hall
   have:=hall j hj
   simp only [Bool.or_eq_true,Bool.not_eq_true',beq_eq_false_iff_ne]at this
   rcases this with h1|h1
   ·exact hd h1
   ·exact h1 he
  rw [this]; exact⟨by simp [V.sc], .junk _⟩
theorem Gt (c:Chk ops n order E B) {w0:qQ} {st0:St} {G0:Gh} {K:AFr→St→Prop} {Q:Exit→Act→World→Prop}
  (hK:∀fr' st' G' a' w',K fr' st'→Rel gl w0 G' st' w'→vX G' st' fr' a'→Ext st0 G0 G'→st0.le st'→Q .normal a' w'):
  ∀ (fuel:Nat) (listed:Array Bool) (rest seen:List Nat) (F:AFr) (st:St) (G:Gh) (w:World) (a:Act),
   Gk P gl ops n order E B w0 st0 G0 K listed rest seen F st G w a→((List.range ops.size).filter fun i=> !(listed.getD i false)).length≤fuel→wpAny P .any ops Q fuel listed a w:=by
 have ends:∀(listed:Array Bool) (rest seen:List Nat) (F:AFr) (st:St) (G:Gh) (w:World) (a:Act),Gk P gl ops n order E B w0 st0 G0 K listed rest seen F st G w a→(∀i,i<ops.size→Dn listed i)→Q .normal a w:=by
  intro listed rest seen F st G w a h hall
  have hrest:rest= []:=by
   cases hr:rest with
   |nil=>rfl
   | cons e r=>
    exfalso
    have he:=h.headE e r hr
    have hem:e∈order:=by rw [h.split,hr]; simp
    have:=h.doneSeen e (hall e (c.lt e hem))
    have hnd:=c.nodup
    rw [h.split,hr]at hnd
    exact(List.nodup_append.1 hnd).2.2 e (List.mem_reverse.2 this) e O2 rfl
  have had:=h.ad
  rw [hrest]at had
  simp only [aD]at had
  refine hK F st G a w had h.rel ⟨h.defers,h.tmps,fun t=>h.slot t ?_⟩ h.ext h.le
  intro j hj hd
  exact absurd (hall j (c.lt j (by rw [h.split]; simp [hj]))) hd
 have noReady:∀(listed:Array Bool) (rest seen:List Nat) (F:AFr) (st:St) (G:Gh) (w:World) (a:Act),Gk P gl ops n order E B w0 st0 G0 K listed rest seen F st G w a→Region.ready .any ops listed= []→∀i,i<ops.size→Dn listed i:=by
  intro listed rest seen F st G w a h hr
  have key:∀p (hp:p<order.length),Dn listed order[p]:=by
   intro p
   induction p using Nat.strongRecOn with
   | _ p ih=>
    intro hp
    have hlt:=c.lt _ (List.getElem_mem hp)
    by_cases hd:Dn listed order[p]
    ·exact hd
    ·exfalso
     have:order[p]∈Region.ready .any ops listed:=by
      rw [mem_ready]
      refine⟨?_,ops[order[p]],by simp [hlt], ?_⟩
      ·have hsz:order[p]<listed.size:=by rw [h.size]; exact hlt
       simp only [Dn]at hd
       simp [Array.getD,hsz]at hd ⊢
       exact hd
      ·intro e he hb
       have hk:e.on∈dp ops order[p]:=by
        unfold dp
        rw [show ops[order[p]]? =some ops[order[p]]by simp [hlt]]
        exact List.mem_map.2 ⟨e,List.mem_filter.2 ⟨by simpa using he,hb⟩,rfl⟩
       obtain⟨q,hq,hql,hqe⟩:=gM (c.topo p hp _ hk)
       rw [←hqe]; exact ih q hq hql
     rw [hr]at this; cases this
  intro i hi
  obtain⟨p,hp,he⟩:=List.getElem_of_mem (c.all i hi)
  rw [←he]; exact key p hp
 intro fuel
 induction fuel with
 | zero=>
  intro listed rest seen F st G w a h hf
  have hall:∀i,i<ops.size→Dn listed i:=by
   intro i hi
   have:((List.range ops.size).filter fun i=> !(listed.getD i false))= []:=List.eq_nil_of_length_eq_zero (Nat.le_zero.1 hf)
   rw [List.filter_eq_nil_iff]at this
   have:=this i (O7 hi)
   simpa [Dn] using this
  refine⟨?_,ends listed rest seen F st G w a h hall⟩
  cases hr:Region.ready .any ops listed with
  |nil=>rfl
  | cons i r=>
   exfalso
   have hm:i∈Region.ready .any ops listed:=by rw [hr]; simp
   rw [mem_ready]at hm
   obtain⟨h1,o,ho,_⟩:=hm
   have hi:i<ops.size:=(Array.getElem?_eq_some_iff.1 ho).1
   have h2:=hall i hi
   have hsz:i<listed.size:=by rw [h.size]; exact hi
   simp only [Dn]at h2
   simp [Array.getD,hsz]at h1 h2
   rw [h1]at h2; cases h2
 | succ fuel ih=>
  intro listed rest seen F st G w a h hf
  refine⟨fun hr=>ends listed rest seen F st G w a h (noReady listed rest seen F st G w a h hr), ?_⟩
  intro i hir
  rw [mem_ready]at hir
  obtain⟨hun,o,ho,hpre⟩:=hir
  have hi:i<ops.size:=(Array.getElem?_eq_some_iff.1 ho).1
  have hsz:i<listed.size:=by rw [h.size]; exact hi
  have hnd:¬Dn listed i:=by
   simp only [Dn]; simp [Array.getD,hsz]at hun ⊢; exact hun
  have hdp:∀k∈dp ops i,Dn listed k:=by
   intro k hk
   unfold dp at hk
   rw [ho]at hk
   obtain⟨e,he,rfl⟩:=List.mem_map.1 hk
   obtain⟨he1,he2⟩:=List.mem_filter.1 he
   exact hpre e (O7 he1) he2
  have hB:=c.ready h.closed hi hdp
  have hfuel:((List.range ops.size).filter fun k=> !((listed.setIfInBounds i true).getD k false)).length≤fuel:=by
   have:=UF (p:=fun k=> !(listed.getD k false)) (q:=fun k=> !((listed.setIfInBounds i true).getD k false)) (List.range ops.size) (by
    intro k _ hk
    by_cases hki:i=k
    ·subst hki; simp [hsz]at hk
    ·rwa [getD_set_ne false hki]at hk) ⟨i,by simpa using hi,by simpa [Dn] using hnd,by simp [hsz]⟩
   omega
  have hsize':(listed.setIfInBounds i true).size=ops.size:=by simp [h.size]
  have hclosed':Jr ops (listed.setIfInBounds i true):=by
   intro j k hj hk
   rw [pT hsz]at hj ⊢
   rcases hj with rfl|hj
   ·exact .inr (hdp k hk)
   ·exact .inr (h.closed j k hj hk)
  have hreads:∀t∈dN ops i,∀j∈seen,¬Dn listed j→uY ops j≠some t:=by
   intro t ht j hj hd hdj
   have hjm:j<ops.size:=c.lt j (by rw [h.split]; simp [hj])
   rcases c.reads i hi t ht j hjm hdj with h1|h1
   ·exact hd (hB j h1)
   ·exact hd (h.effDone j hj h1.1)
  have hmr:∀t∈dN ops i,wh F.l t=wh (Xt ops listed seen F).l t:=fun t ht=>(Um (hreads t ht)).symm
  have hmo:∀x∈o.op.operands,F.eval x=(Xt ops listed seen F).eval x:=Xs fun t ht=>hmr t (by unfold dN; rw [ho]; simp [ht])
  have hmask:=h.mask
  have hyield:∀(g:Nat) (want:Bool) (b:Option Bool),o.guard=some (g,want)→ky ops F g=some b→yielded ops a.tmps g=b:=by
   intro g want b hg hy
   refine Wa hmask ?_
   rw [←hy]
   refine(X1 fun d hd=> ?_).symm
   exact hmr d (by unfold dN; rw [ho]; simp [hg,hd])
  have hdst:uY ops i=o.dst:=by simp [uY,ho]
  unfold wpOp
  rw [ho]
  simp only
  by_cases his:i∈seen
  ·
   have hstill:=h.inv i his hnd
   have hiE:i∉E:=fun he=>hnd (h.effDone i his he)
   have cont:∀(v:V) (cv:Value) (G':Gh) (w':World),(∀d,o.dst=some d→wh F.l d=v)→VR G' v cv→V.sc st v→Rel gl w0 G' st w'→Ext st G G'→wpAny P .any ops Q fuel (listed.setIfInBounds i true) (a.put o.dst cv) w':=by
    intro v cv G' w' hv hvr hvs hrel hx
    refine ih _ rest seen F st G' w' _ ?_ hfuel
    refine {size:=hsize',split:=h.split,headE:=h.headE,doneSeen:= ?_,effDone:= ?_,closed:=hclosed',inv:= ?_,ad:=h.ad,rel:=hrel,defers:=by simp only [Act.put]; cases o.dst<;>exact h.defers,tmps:= ?_,slot:= ?_,n:=h.n,ext:=h.ext.trans h.le hx,le:=h.le}
    ·intro j hj
     rw [pT hsz]at hj
     rcases hj with rfl|hj
     ·exact his
     ·exact h.doneSeen j hj
    ·intro j hj he; rw [pT hsz]; exact .inr (h.effDone j hj he)
    ·intro j hj hd; rw [pT hsz]at hd; exact h.inv j hj fun hd'=>hd (.inr hd')
    ·simp only [Act.put]; cases o.dst<;>simp [h.tmps]
    ·intro t ht
     cases hd:o.dst with
     | none=>
      have:=h.slot t (fun j hj hdn he=>by
       by_cases hji:j=i
       ·subst hji; rw [hdst,hd]at he; cases he
       ·exact ht j hj (by rw [pT hsz]; rintro(h1|h1); exact hji h1; exact hdn h1) he)
      exact⟨this.1,this.2.ext hx this.1⟩
     | some d=>
      have hdn:d<a.tmps.size:=by rw [h.tmps,h.n]; exact c.dlt i hi d (by rw [hdst,hd])
      rw [Jy hdn]
      by_cases htd:t=d
      ·subst htd
       rw [if_pos rfl,hv t hd]
       exact⟨hvs,hvr⟩
      ·rw [if_neg htd]
       have:=h.slot t (fun j hj hdn' he=>by
        by_cases hji:j=i
        ·subst hji; rw [hdst,hd]at he; injection he with he; exact htd he.symm
        ·exact ht j hj (by rw [pT hsz]; rintro(h1|h1); exact hji h1; exact hdn' h1) he)
       exact⟨this.1,this.2.ext hx this.1⟩
   obtain ⟨v,hv,hvd⟩:∃v,gk P gl ops i F st v∧∀d,o.dst=some d→wh F.l d=v:=by
    unfold ba at hstill
    rw [hdst]at hstill
    cases hd:o.dst with
    |none=>rw [hd]at hstill; obtain⟨v,hv⟩:=hstill; exact⟨v,hv,O2⟩
    |some d=>rw [hd]at hstill; exact⟨_,hstill,by intro e he; injection he with he; rw [he]⟩
   have exec:xY P gl F st o.op=some (v,st)→o.wp P a w (wpAny P .any ops Q fuel (listed.setIfInBounds i true)) Q:=by
    intro he
    rw [Y1 o hmo]at he
    refine Xx (K:=fun v' st'=>v'=v∧st'=st) (UY he ⟨rfl,rfl⟩) h.rel hmask ?_
    rintro v' cv st' G' w' ⟨rfl,rfl⟩ hvr hvs hrel hx hl
    exact cont v' cv G' w' hvd hvr hvs hrel hx
   unfold gk at hv
   rw [ho]at hv
   simp only at hv
   cases hg:o.guard with
   | none=>
    rw [hg]at hv
    rw [if_pos (by simp [Region.wanted,hg])]
    exact .inl (exec hv)
   | some q=>
    obtain⟨g,want⟩:=q
    rw [hg]at hv
    simp only at hv
    cases hy:ky ops F g with
    |none=>rw [hy]at hv; exact hv.elim
    | some b=>
     rw [hy]at hv
     simp only at hv
     have hyy:=hyield g want b hg hy
     by_cases hbw:b=some want
     ·rw [if_pos (by simp [Region.wanted,hg,hyy,hbw])]
      exact .inl (exec (hv.1 hbw))
     ·rw [if_neg (by simp [Region.wanted,hg,hyy,hbw])]
      have hj:=hv.2 hbw
      subst hj
      exact cont (.tuple []) undef G w hvd (.undef _) (by simp [V.sc,V.scs]) h.rel (.refl _ _)
  ·
   have him:i∈order:=c.all i hi
   have hirest:i∈rest:=by
    rw [h.split]at him
    rcases List.mem_append.1 him with h1|h1
    ·exact absurd (List.mem_reverse.1 h1) his
    ·exact h1
   cases hr:rest with
   |nil=>rw [hr]at hirest; cases hirest
   | cons e r=>
    have heE:=h.headE e r hr
    have hsplit:order=seen.reverse++e::r:=by rw [←hr]; exact h.split
    have hie:i=e:=by
     rw [hr]at hirest
     rcases List.mem_cons.1 hirest with h1|h1
     ·exact h1
     ·exfalso
      have hpos:seen.length<order.length:=by rw [hsplit]; simp
      have hat:order[seen.length]=e:=by
       subst hsplit
       rw [List.getElem_append_right O2]
       simp
      have hb:=c.waits seen.length hpos (by rw [hat]; exact heE) i (by
       rw [hsplit,List.drop_append]
       simp [h1])
      rw [hat]at hb
      have hde:=h.doneSeen e (hB e hb)
      have hno:=c.nodup
      rw [hsplit]at hno
      exact(List.nodup_append.1 hno).2.2 e (List.mem_reverse.2 hde) e O2 rfl
    subst hie
    have had:=h.ad
    rw [hr]at had
    simp only [aD]at had
    rw [if_pos (O7 heE)]at had
    have cont:∀(v:V) (cv:Value) (st1:St) (G':Gh) (w':World),dJ P gl ops E (B.getD i []) seen (F.put o.dst v) st1→aD P gl ops E B r (i::seen) (F.put o.dst v) st1 K→VR G' v cv→V.sc st1 v→Rel gl w0 G' st1 w'→Ext st G G'→st.le st1 →
      wpAny P .any ops Q fuel (listed.setIfInBounds i true) (a.put o.dst cv) w':=by
     intro v cv st1 G' w' hstab had' hvr hvs hrel hx hl
     have hn1:(F.put o.dst v).n=n:=by rw [DW,h.n]
     obtain⟨rest',seen',F',g1,g2,g3,g4,g5,g6,g7,g8⟩:=Vo c r (i::seen) (F.put o.dst v) (by rw [hsplit]; simp) hn1 had'
     have hstab':∀j∈seen,¬Dn listed j→ba P gl ops j (F.put o.dst v) st1:=by
      have gen:∀l:List Nat,dJ P gl ops E (B.getD i []) l (F.put o.dst v) st1→∀j∈l,j∉E→j∉B.getD i []→ba P gl ops j (F.put o.dst v) st1:=by
       intro l
       induction l with
       |nil=>intro _ j hj; cases hj
       | cons x l ihl=>
        intro hs j hj h1 h2
        simp only [dJ]at hs
        rcases List.mem_cons.1 hj with rfl|hj
        ·have:=hs.1
         rw [if_neg (by simp only [Bool.or_eq_true,List.contains_iff_mem,not_or]; exact⟨h1,h2⟩)]at this
         exact this
        ·exact ihl hs.2 j hj h1 h2
      intro j hj hd
      exact gen seen hstab j hj (fun he=>hd (h.effDone j hj he)) (fun hb=>hd (hB j hb))
     refine ih _ rest' seen' F' st1 G' w' _ ?_ hfuel
     refine {size:=hsize',split:=g1,headE:=g2,doneSeen:= ?_,effDone:= ?_,closed:=hclosed',inv:= ?_,ad:=g5,rel:=hrel,defers:=by simp only [Act.put]; cases o.dst<;>exact h.defers,tmps:= ?_,slot:= ?_,n:=g6,ext:=h.ext.trans h.le hx,le:=h.le.trans hl}
     ·intro j hj
      rw [pT hsz]at hj
      rcases hj with rfl|hj
      ·exact g3 j O2
      ·exact g3 j (List.mem_cons_of_mem _ (h.doneSeen j hj))
     ·intro j hj he
      rw [pT hsz]
      by_cases hjs:j∈i::seen
      ·rcases List.mem_cons.1 hjs with h1|h1
       ·exact .inl h1
       ·exact .inr (h.effDone j h1 he)
      ·exact absurd he (g4 j hj hjs).1
     ·intro j hj hd
      rw [pT hsz]at hd
      by_cases hjs:j∈i::seen
      ·rcases List.mem_cons.1 hjs with h1|h1
       ·exact absurd (.inl h1) hd
       ·exact g7 j hjs (hstab' j h1 fun hd'=>hd (.inr hd'))
      ·exact(g4 j hj hjs).2
     ·rw [g6,←h.n,←h.tmps]; simp only [Act.put]; cases o.dst with
      |none=>rfl
      |some d=>simp
     ·intro t ht
      rw [g8 t (fun j hj hjs=>ht j hj (by
       rw [pT hsz]
       rintro(h1|h1)
       ·exact hjs (by simp [h1])
       ·exact hjs (List.mem_cons_of_mem _ (h.doneSeen j h1))))]
      have old:∀t,(∀j∈seen,¬Dn listed j→uY ops j≠some t)→V.sc st1 (wh F.l t)∧VR G' (wh F.l t) (a.tmps.getD t undef):=fun t ht=>
       ⟨V.sc_mono hl _ (h.slot t ht).1,(h.slot t ht).2.ext hx (h.slot t ht).1⟩
      have hunm:∀j∈seen,¬Dn listed j→uY ops j≠some t:=fun j hj hd=>ht j (g3 j (List.mem_cons_of_mem _ hj)) (by
       rw [pT hsz]
       rintro(h1|h1)
       ·exact his (h1▸hj)
       ·exact hd h1)
      cases hd:o.dst with
      |none=>exact old t hunm
      | some d=>
       have hdn:d<F.n:=by rw [h.n]; exact c.dlt i hi d (by rw [hdst,hd])
       rw [Jy (by rw [h.tmps]; exact hdn),ZZ hdn]
       by_cases htd:t=d
       ·rw [if_pos htd,if_pos htd]; exact⟨hvs,hvr⟩
       ·rw [if_neg htd,if_neg htd]; exact old t hunm
    unfold Qo at had
    rw [ho]at had
    simp only at had
    have exec:(pU P gl o F st fun v st'=>dJ P gl ops E (B.getD i []) seen (F.put o.dst v) st'∧aD P gl ops E B r (i::seen) (F.put o.dst v) st' K)→o.wp P a w (wpAny P .any ops Q fuel (listed.setIfInBounds i true)) Q:=by
     intro hv
     refine Xx (Ke hmo hv) h.rel hmask ?_
     rintro v cv st1 G' w' ⟨k1,k2⟩ hvr hvs hrel hx hl
     exact cont v cv st1 G' w' k1 k2 hvr hvs hrel hx hl
    cases hg:o.guard with
    | none=>
     rw [hg]at had
     rw [if_pos (by simp [Region.wanted,hg])]
     exact .inl (exec had)
    | some q=>
     obtain⟨g,want⟩:=q
     rw [hg]at had
     simp only at had
     cases hy:ky ops F g with
     |none=>rw [hy]at had; exact had.elim
     | some b=>
      rw [hy]at had
      simp only at had
      have hyy:=hyield g want b hg hy
      by_cases hbw:b=some want
      ·rw [if_pos (by simp [Region.wanted,hg,hyy,hbw])]
       exact .inl (exec (had.1 hbw))
      ·rw [if_neg (by simp [Region.wanted,hg,hyy,hbw])]
       obtain⟨k1,k2⟩:=had.2 hbw
       exact cont (.tuple []) undef st G w k1 k2 (.undef _) (by simp [V.sc,V.scs]) h.rel (.refl _ _) (.refl _)
theorem uj.draw {fr:AFr} {st:St} {AQ:Exit→AFr→St→Prop} {id:Nat} (order E:List Nat) (B:List (List Nat)) (hm:P.follows .mixedOrders=true) (hc:kf ops fr.n order E B=true)
  (h:aD P gl ops E B order [] fr st (AQ .normal)):uj P gl (.region id ops true) AQ fr st:=by
 intro w0 G w a hr hf
 have c:=Chk.of hc
 refine wp_region_any hm ?_
 have hr':Rel gl w0 G st {w with drawn:=w.drawn+1}:=hr.of_heap rfl rfl rfl rfl
 obtain⟨rest',seen',F',g1,g2,g3,g4,g5,g6,g7,g8⟩:=Vo c order [] fr O2 rfl h
 have hnone:∀j,¬Dn (Array.replicate ops.size false) j:=by
  intro j hd
  simp only [Dn,Array.getD_eq_getD_getElem?,Array.getElem?_replicate]at hd
  split at hd<;>simp at hd
 refine Gt (P:=P) (gl:=gl) c (w0:=w0) (st0:=st) (G0:=G) (K:=AQ .normal) (Q:=LQ gl w0 st G AQ) (fun fr' st' G' a' w' m1 m2 m3 m4 m5=>⟨fr',st',G',m1,m2,m3,m4,m5⟩) ops.size _ rest' seen' F' st G _ a ?_ ?_
 ·refine {size:=O2,split:=g1,headE:=g2,doneSeen:=fun i hi=>absurd hi (hnone i),effDone:=fun i hi he=>absurd he (g4 i hi O2).1,closed:=fun j k hj=>absurd hj (hnone j),inv:=fun j hj _=>(g4 j hj O2).2,ad:=g5,rel:=hr',defers:=hf.defers,tmps:=by rw [hf.size,g6],slot:= ?_,n:=g6,ext:= .refl _ _,le:= .refl _}
  intro t ht
  rw [g8 t (fun j hj _=>ht j hj (hnone j))]
  exact hf.slot t
 ·refine Nat.le_trans (List.length_filter_le _ _) O2
end
end Go.Abs
end
