/- Abstract values. No condition. -/
import Derived.Test.YtkabooclnoiclaaGreatDoorA15
set_option linter.all false
section
namespace Go.Abs
open Go.RowKit (Below)
section
variable {P:Program} {gl:Nat->List V} {ops:Array Oper} {n:Nat} {order E:List Nat} {B:List (List Nat)}
structure nb (P:Program) (gl:Nat->List V) (ops:Array Oper) (n:Nat) (order E:List Nat) (B:List (List Nat)) (w0:xi) (st0:St) (G0:Gh) (K:AFr->St->Prop) (listed:Array Bool) (rest seen:List Nat) (F:AFr) (st:St) (G:Gh) (w:World) (a:Act):Prop where
 size:listed.size=ops.size
 split:order=seen.reverse++rest
 headE:∀e r,rest=e::r->e∈E
 doneSeen:∀i,Dn listed i->i∈seen
 effDone:∀i∈seen,i∈E->Dn listed i
 closed:vn ops listed
 inv:∀j∈seen,¬Dn listed j->u5 P gl ops j F st
 ad:aD P gl ops E B rest seen F st K
 rel:Rel gl w0 G st w
 defers:a.defers= []
 tmps:a.tmps.size=F.n
 slot:∀t,(∀j∈seen,¬Dn listed j->zQ ops j≠some t)->V.sc st (yG F.l t)∧VR G (yG F.l t) (a.tmps.getD t undef)
 n:F.n=n
 ext:Ext st0 G0 G
 le:st0.le st
def wa {listed:Array Bool} {i j:Nat} (hi:i<listed.size):Dn (listed.setIfInBounds i true) j↔j=i∨Dn listed j:=by
 unfold Dn
 by_cases h:i=j
 ·subst h; simp [hi]
 ·rw [getD_set_ne false h];constructor
  ·exact fun h=> .inr h
  ·rintro(rfl|a)
   ·exact absurd rfl h
   ·exact a
def gQ {a:Act} {d t:Nat} {c:Value} (hd:d<a.tmps.size):(a.put (some d) c).tmps.getD t undef=if t=d then c else a.tmps.getD t undef:=by
 simp only [Act.put,Array.getD_eq_getD_getElem?,Array.getElem?_setIfInBounds]
 by_cases h:d=t
 ·subst h; simp [hd]
 ·rw [iH h,iH (Ne.symm h)]
def Z7 (ops:Array Oper) (listed:Array Bool) (seen:List Nat) (F:AFr):AFr:=
 {F with l:=F.l.filter fun x=>seen.all fun j=>listed.getD j false|| !(zQ ops j==some x.1)}
def UO {listed:Array Bool} {seen:List Nat} {F:AFr} {t:Nat} (h:∀j∈seen,¬Dn listed j->zQ ops j≠some t):yG (Z7 ops listed seen F).l t=yG F.l t:=by
 simp only [Z7,Y5 (p:=fun x=>seen.all fun j=>listed.getD j false|| !(zQ ops j==some x))];rw [iI];rw [List.all_eq_true];intro j a
 by_cases hd:Dn listed j
 ·simp only [Dn]at hd; simp [hd]
 ·have:=h j a hd;simp [this]
def nb.mask {w0:xi} {st0:St} {G0:Gh} {K:AFr->St->Prop} {listed:Array Bool} {c seen:List Nat} {F:AFr} {st:St} {G:Gh} {w:World} {a:Act}
  (h:nb P gl ops n order E B w0 st0 G0 K listed c seen F st G w a):wP G st (Z7 ops listed seen F) a:=by
 refine⟨h.defers,h.tmps,fun t=> ?_⟩
 by_cases f:∀j∈seen,¬Dn listed j->zQ ops j≠some t
 ·rw [UO f]; exact h.slot t f
 ·have:yG (Z7 ops listed seen F).l t= .junk:=by
   simp only [Z7,Y5 (p:=fun x=>seen.all fun j=>listed.getD j false|| !(zQ ops j==some x))];rw [iH];intro b;apply f;intro j i hd g;rw [List.all_eq_true]at b;have:=b j i;simp only [Bool.or_eq_true,Bool.not_eq_true',beq_eq_false_iff_ne]at this;rcases this with e|e
   ·exact hd e
   ·exact e g
  rw [this]; exact⟨by simp [V.sc], .junk _⟩
def zbq (c:Chk ops n order E B) {w0:xi} {st0:St} {G0:Gh} {K:AFr->St->Prop} {Q:Exit->Act->World->Prop}
  (hK:∀fr' st' G' a' w',K fr' st'->Rel gl w0 G' st' w'->wP G' st' fr' a'->Ext st0 G0 G'->st0.le st'->Q .normal a' w'):
  ∀ (fuel:Nat) (listed:Array Bool) (f seen:List Nat) (F:AFr) (st:St) (G:Gh) (w:World) (a:Act),
   nb P gl ops n order E B w0 st0 G0 K listed f seen F st G w a->((List.range ops.size).filter fun i=> !(listed.getD i false)).length<=fuel->wpAny P .any ops Q fuel listed a w:=by
 have ends:∀(listed:Array Bool) (f seen:List Nat) (F:AFr) (st:St) (G:Gh) (w:World) (a:Act),nb P gl ops n order E B w0 st0 G0 K listed f seen F st G w a->(∀i,i<ops.size->Dn listed i)->Q .normal a w:=by
  intro listed f seen F st G w a h O
  have hrest:f= []:=by
   cases W:f with
   |nil=>rfl
   | cons e r=>
    exfalso;have A:=h.headE e r W;have hem:e∈order:=by rw [h.split,W]; simp
    have:=h.doneSeen e (O e (c.lt e hem));have hnd:=c.nodup;rw [h.split,W]at hnd;exact(List.nodup_append.1 hnd).2.2 e (List.mem_reverse.2 this) e O2 rfl
  have y:=h.ad;rw [hrest]at y;simp only [aD]at y;refine hK F st G a w y h.rel ⟨h.defers,h.tmps,fun t=>h.slot t ?_⟩ h.ext h.le;intro j m hd;exact absurd (O j (c.lt j (by rw [h.split]; simp [m]))) hd
 have noReady:∀(listed:Array Bool) (f seen:List Nat) (F:AFr) (st:St) (G:Gh) (w:World) (a:Act),nb P gl ops n order E B w0 st0 G0 K listed f seen F st G w a->Region.ready .any ops listed= []->∀i,i<ops.size->Dn listed i:=by
  intro listed f seen F st G w a h W
  have key:∀p (hp:p<order.length),Dn listed order[p]:=by
   intro p
   induction p using Nat.strongRecOn with
   | _ p ih=>
    intro hp;have hlt:=c.lt _ (List.getElem_mem hp)
    by_cases hd:Dn listed order[p]
    ·exact hd
    ·exfalso
     have:order[p]∈Region.ready .any ops listed:=by
      rw [mem_ready];refine⟨?_,ops[order[p]],by simp [hlt], ?_⟩
      ·have z:order[p]<listed.size:=by rw [h.size]; exact hlt
       simp only [Dn]at hd;simp [Array.getD,z]at hd ⊢;exact hd
      ·intro e A hb
       have hk:e.on∈dp ops order[p]:=by
        unfold dp;rw [show ops[order[p]]? =some ops[order[p]]by simp [hlt]];exact List.mem_map.2 ⟨e,List.mem_filter.2 ⟨by simpa using A,hb⟩,rfl⟩
       obtain⟨q,hq,hql,hqe⟩:=wZ (c.topo p hp _ hk);rw [<-hqe]; exact ih q hq hql
     rw [W]at this; cases this
  intro i hi;obtain⟨p,hp,A⟩:=List.getElem_of_mem (c.all i hi);rw [<-A]; exact key p hp
 intro fuel
 induction fuel with
 | zero=>
  intro listed f seen F st G w a h hf
  have O:∀i,i<ops.size->Dn listed i:=by
   intro i hi;have:((List.range ops.size).filter fun i=> !(listed.getD i false))= []:=List.eq_nil_of_length_eq_zero (Nat.le_zero.1 hf);rw [List.filter_eq_nil_iff]at this;have:=this i (O7 hi);simpa [Dn] using this
  refine⟨?_,ends listed f seen F st G w a h O⟩
  cases W:Region.ready .any ops listed with
  |nil=>rfl
  | cons i r=>
   exfalso;have hm:i∈Region.ready .any ops listed:=by rw [W]; simp
   rw [mem_ready]at hm;obtain⟨s,o,ho,_⟩:=hm;have hi:i<ops.size:=(Array.getElem?_eq_some_iff.1 ho).1;have h2:=O i hi;have z:i<listed.size:=by rw [h.size]; exact hi
   simp only [Dn]at h2;simp [Array.getD,z]at s h2;rw [s]at h2; cases h2
 | succ fuel ih=>
  intro listed f seen F st G w a h hf;refine⟨fun W=>ends listed f seen F st G w a h (noReady listed f seen F st G w a h W), ?_⟩;intro i hir;rw [mem_ready]at hir;obtain⟨hun,o,ho,hpre⟩:=hir;have hi:i<ops.size:=(Array.getElem?_eq_some_iff.1 ho).1;have z:i<listed.size:=by rw [h.size]; exact hi
  have hnd:¬Dn listed i:=by
   simp only [Dn]; simp [Array.getD,z]at hun ⊢; exact hun
  have hdp:∀k∈dp ops i,Dn listed k:=by
   intro k hk;unfold dp at hk;rw [ho]at hk;obtain⟨e,A,rfl⟩:=List.mem_map.1 hk;obtain⟨he1,he2⟩:=List.mem_filter.1 A;exact hpre e (O7 he1) he2
  have hB:=c.ready h.closed hi hdp
  have hfuel:((List.range ops.size).filter fun k=> !((listed.setIfInBounds i true).getD k false)).length<=fuel:=by
   have:=filter_lt (p:=fun k=> !(listed.getD k false)) (q:=fun k=> !((listed.setIfInBounds i true).getD k false)) (List.range ops.size) (by
    intro k _ hk
    by_cases hki:i=k
    ·subst hki; simp [z]at hk
    ·rwa [getD_set_ne false hki]at hk) ⟨i,by simpa using hi,by simpa [Dn] using hnd,by simp [z]⟩
   omega
  have hsize':(listed.setIfInBounds i true).size=ops.size:=by simp [h.size]
  have hclosed':vn ops (listed.setIfInBounds i true):=by
   intro j k m hk;rw [wa z]at m ⊢;rcases m with rfl|m
   ·exact .inr (hdp k hk)
   ·exact .inr (h.closed j k m hk)
  have hreads:∀t∈xG ops i,∀j∈seen,¬Dn listed j->zQ ops j≠some t:=by
   intro t X j m hd hdj;have hjm:j<ops.size:=c.lt j (by rw [h.split]; simp [m]);rcases c.reads i hi t X j hjm hdj with s|s
   ·exact hd (hB j s)
   ·exact hd (h.effDone j m s.1)
  have hmr:∀t∈xG ops i,yG F.l t=yG (Z7 ops listed seen F).l t:=fun t X=>(UO (hreads t X)).symm;have hmo:∀x∈o.op.operands,F.eval x=(Z7 ops listed seen F).eval x:=Z4 fun t X=>hmr t (by unfold xG; rw [ho]; simp [X]);have hmask:=h.mask
  have hyield:∀(g:Nat) (H:Bool) (b:Option Bool),o.guard=some (g,H)->uM ops F g=some b->yielded ops a.tmps g=b:=by
   intro g H b U hy;refine Xd hmask ?_;rw [<-hy];refine(Y1 fun d hd=> ?_).symm;exact hmr d (by unfold xG; rw [ho]; simp [U,hd])
  have S:zQ ops i=o.dst:=by simp [zQ,ho]
  unfold wpOp;rw [ho];simp only
  by_cases his:i∈seen
  ·
   have hstill:=h.inv i his hnd;have hiE:i∉E:=fun A=>hnd (h.effDone i his A)
   have cont:∀(v:V) (cv:Value) (G':Gh) (w':World),(∀d,o.dst=some d->yG F.l d=v)->VR G' v cv->V.sc st v->Rel gl w0 G' st w'->Ext st G G'->wpAny P .any ops Q fuel (listed.setIfInBounds i true) (a.put o.dst cv) w':=by
    intro v cv G' w' N Y Z I hx;refine ih _ f seen F st G' w' _ ?_ hfuel;refine {size:=hsize',split:=h.split,headE:=h.headE,doneSeen:= ?_,effDone:= ?_,closed:=hclosed',inv:= ?_,ad:=h.ad,rel:=I,defers:=by simp only [Act.put]; cases o.dst<;>exact h.defers,tmps:= ?_,slot:= ?_,n:=h.n,ext:=h.ext.trans h.le hx,le:=h.le}
    ·intro j m;rw [wa z]at m;rcases m with rfl|m
     ·exact his
     ·exact h.doneSeen j m
    ·intro j m A; rw [wa z]; exact .inr (h.effDone j m A)
    ·intro j m hd; rw [wa z]at hd; exact h.inv j m fun hd'=>hd (.inr hd')
    ·simp only [Act.put]; cases o.dst<;>simp [h.tmps]
    ·intro t X
     cases hd:o.dst with
     | none=>
      have:=h.slot t (fun j m hdn A=>by
       by_cases hji:j=i
       ·subst hji; rw [S,hd]at A; cases A
       ·exact X j m (by rw [wa z]; rintro(s|s); exact hji s; exact hdn s) A)
      exact⟨this.1,this.2.ext hx this.1⟩
     | some d=>
      have hdn:d<a.tmps.size:=by rw [h.tmps,h.n]; exact c.dlt i hi d (by rw [S,hd])
      rw [gQ hdn]
      by_cases T:t=d
      ·subst T;rw [iI rfl,N t hd];exact⟨Z,Y⟩
      ·rw [iH T]
       have:=h.slot t (fun j m hdn' A=>by
        by_cases hji:j=i
        ·subst hji; rw [S,hd]at A; injection A with A; exact T A.symm
        ·exact X j m (by rw [wa z]; rintro(s|s); exact hji s; exact hdn' s) A)
       exact⟨this.1,this.2.ext hx this.1⟩
   obtain ⟨v,N,hvd⟩:∃v,jI P gl ops i F st v∧∀d,o.dst=some d->yG F.l d=v:=by
    unfold u5 at hstill;rw [S]at hstill
    cases hd:o.dst with
    |none=>rw [hd]at hstill; obtain⟨v,N⟩:=hstill; exact⟨v,N,O2⟩
    |some d=>rw [hd]at hstill; exact⟨_,hstill,by intro e A; injection A with A; rw [A]⟩
   have exec:xc P gl F st o.op=some (v,st)->o.wp P a w (wpAny P .any ops Q fuel (listed.setIfInBounds i true)) Q:=by
    intro A;rw [Zj o hmo]at A;refine Yd (K:=fun v' st'=>v'=v∧st'=st) (J7 A ⟨rfl,rfl⟩) h.rel hmask ?_;rintro v' cv st' G' w' ⟨rfl,rfl⟩ Y Z I hx hl;exact cont v' cv G' w' hvd Y Z I hx
   unfold jI at N;rw [ho]at N;simp only at N
   cases U:o.guard with
   | none=>
    rw [U]at N;rw [iI (by simp [Region.wanted,U])];exact .inl (exec N)
   | some q=>
    obtain⟨g,H⟩:=q;rw [U]at N;simp only at N
    cases hy:uM ops F g with
    |none=>rw [hy]at N; exact N.elim
    | some b=>
     rw [hy]at N;simp only at N;have hyy:=hyield g H b U hy
     by_cases L:b=some H
     ·rw [iI (by simp [Region.wanted,U,hyy,L])];exact .inl (exec (N.1 L))
     ·rw [iH (by simp [Region.wanted,U,hyy,L])];have m:=N.2 L;subst m;exact cont (.tuple []) undef G w hvd (.undef _) (by simp [V.sc,V.scs]) h.rel (.refl _ _)
  ·
   have him:i∈order:=c.all i hi
   have hirest:i∈f:=by
    rw [h.split]at him;rcases List.mem_append.1 him with s|s
    ·exact absurd (List.mem_reverse.1 s) his
    ·exact s
   cases W:f with
   |nil=>rw [W]at hirest; cases hirest
   | cons e r=>
    have heE:=h.headE e r W;have hsplit:order=seen.reverse++e::r:=by rw [<-W]; exact h.split
    have hie:i=e:=by
     rw [W]at hirest;rcases List.mem_cons.1 hirest with s|s
     ·exact s
     ·exfalso;have hpos:seen.length<order.length:=by rw [hsplit]; simp
      have hat:order[seen.length]=e:=by
       subst hsplit;rw [List.getElem_append_right O2];simp
      have hb:=c.waits seen.length hpos (by rw [hat]; exact heE) i (by
       rw [hsplit,List.drop_append]
       simp [s])
      rw [hat]at hb;have hde:=h.doneSeen e (hB e hb);have hno:=c.nodup;rw [hsplit]at hno;exact(List.nodup_append.1 hno).2.2 e (List.mem_reverse.2 hde) e O2 rfl
    subst hie;have y:=h.ad;rw [W]at y;simp only [aD]at y;rw [iI (O7 heE)]at y
    have cont:∀(v:V) (cv:Value) (C:St) (G':Gh) (w':World),qE P gl ops E (B.getD i []) seen (F.put o.dst v) C->aD P gl ops E B r (i::seen) (F.put o.dst v) C K->VR G' v cv->V.sc C v->Rel gl w0 G' C w'->Ext st G G'->st.le C ->
      wpAny P .any ops Q fuel (listed.setIfInBounds i true) (a.put o.dst cv) w':=by
     intro v cv C G' w' hstab had' Y Z I hx hl;have hn1:(F.put o.dst v).n=n:=by rw [tM,h.n]
     obtain⟨rest',seen',F',g1,g2,g3,g4,g5,g6,g7,g8⟩:=J9 c r (i::seen) (F.put o.dst v) (by rw [hsplit]; simp) hn1 had'
     have hstab':∀j∈seen,¬Dn listed j->u5 P gl ops j (F.put o.dst v) C:=by
      have gen:∀l:List Nat,qE P gl ops E (B.getD i []) l (F.put o.dst v) C->∀j∈l,j∉E->j∉B.getD i []->u5 P gl ops j (F.put o.dst v) C:=by
       intro l
       induction l with
       |nil=>intro _ j m; cases m
       | cons x l ihl=>
        intro hs j m s h2;simp only [qE]at hs;rcases List.mem_cons.1 m with rfl|m
        ·have:=hs.1;rw [iH (by simp only [Bool.or_eq_true,List.contains_iff_mem,not_or]; exact⟨s,h2⟩)]at this;exact this
        ·exact ihl hs.2 j m s h2
      intro j m hd;exact gen seen hstab j m (fun A=>hd (h.effDone j m A)) (fun hb=>hd (hB j hb))
     refine ih _ rest' seen' F' C G' w' _ ?_ hfuel;refine {size:=hsize',split:=g1,headE:=g2,doneSeen:= ?_,effDone:= ?_,closed:=hclosed',inv:= ?_,ad:=g5,rel:=I,defers:=by simp only [Act.put]; cases o.dst<;>exact h.defers,tmps:= ?_,slot:= ?_,n:=g6,ext:=h.ext.trans h.le hx,le:=h.le.trans hl}
     ·intro j m;rw [wa z]at m;rcases m with rfl|m
      ·exact g3 j O2
      ·exact g3 j (List.mem_cons_of_mem _ (h.doneSeen j m))
     ·intro j m A;rw [wa z]
      by_cases M:j∈i::seen
      ·rcases List.mem_cons.1 M with s|s
       ·exact .inl s
       ·exact .inr (h.effDone j s A)
      ·exact absurd A (g4 j m M).1
     ·intro j m hd;rw [wa z]at hd
      by_cases M:j∈i::seen
      ·rcases List.mem_cons.1 M with s|s
       ·exact absurd (.inl s) hd
       ·exact g7 j M (hstab' j s fun hd'=>hd (.inr hd'))
      ·exact(g4 j m M).2
     ·rw [g6,<-h.n,<-h.tmps]; simp only [Act.put]; cases o.dst with
      |none=>rfl
      |some d=>simp
     ·intro t X
      rw [g8 t (fun j m M=>X j m (by
       rw [wa z];rintro(s|s)
       ·exact M (by simp [s])
       ·exact M (List.mem_cons_of_mem _ (h.doneSeen j s))))]
      have old:∀t,(∀j∈seen,¬Dn listed j->zQ ops j≠some t)->V.sc C (yG F.l t)∧VR G' (yG F.l t) (a.tmps.getD t undef):=fun t X=>
       ⟨V.sc_mono hl _ (h.slot t X).1,(h.slot t X).2.ext hx (h.slot t X).1⟩
      have hunm:∀j∈seen,¬Dn listed j->zQ ops j≠some t:=fun j m hd=>X j (g3 j (List.mem_cons_of_mem _ m)) (by
       rw [wa z];rintro(s|s)
       ·exact his (s▸m)
       ·exact hd s)
      cases hd:o.dst with
      |none=>exact old t hunm
      | some d=>
       have hdn:d<F.n:=by rw [h.n]; exact c.dlt i hi d (by rw [S,hd])
       rw [gQ (by rw [h.tmps]; exact hdn),gY hdn]
       by_cases T:t=d
       ·rw [iI T,iI T]; exact⟨Z,Y⟩
       ·rw [iH T,iH T]; exact old t hunm
    unfold Gs at y;rw [ho]at y;simp only at y
    have exec:(gI P gl o F st fun v st'=>qE P gl ops E (B.getD i []) seen (F.put o.dst v) st'∧aD P gl ops E B r (i::seen) (F.put o.dst v) st' K)->o.wp P a w (wpAny P .any ops Q fuel (listed.setIfInBounds i true)) Q:=by
     intro N;refine Yd (D1 hmo N) h.rel hmask ?_;rintro v cv C G' w' ⟨k1,k2⟩ Y Z I hx hl;exact cont v cv C G' w' k1 k2 Y Z I hx hl
    cases U:o.guard with
    | none=>
     rw [U]at y;rw [iI (by simp [Region.wanted,U])];exact .inl (exec y)
    | some q=>
     obtain⟨g,H⟩:=q;rw [U]at y;simp only at y
     cases hy:uM ops F g with
     |none=>rw [hy]at y; exact y.elim
     | some b=>
      rw [hy]at y;simp only at y;have hyy:=hyield g H b U hy
      by_cases L:b=some H
      ·rw [iI (by simp [Region.wanted,U,hyy,L])];exact .inl (exec (y.1 L))
      ·rw [iH (by simp [Region.wanted,U,hyy,L])];obtain⟨k1,k2⟩:=y.2 L;exact cont (.tuple []) undef st G w k1 k2 (.undef _) (by simp [V.sc,V.scs]) h.rel (.refl _ _) (.refl _)
def WH.draw {fr:AFr} {st:St} {AQ:Exit->AFr->St->Prop} {id:Nat} (order E:List Nat) (B:List (List Nat)) (z:P.follows .mixedOrders=true) (x:kR ops fr.n order E B=true)
  (h:aD P gl ops E B order [] fr st (AQ .normal)):WH P gl (.region id ops true) AQ fr st:=by
 intro w0 G w a A f;have c:=Chk.of x;refine wp_region_any z ?_;have l:Rel gl w0 G st {w with drawn:=w.drawn+1}:=A.of_heap rfl rfl rfl rfl;obtain⟨rest',seen',F',q,r,O,o,s,p,S,v⟩:=J9 c order [] fr O2 rfl h
 have hnone:∀j,¬Dn (Array.replicate ops.size false) j:=by
  intro j hd;simp only [Dn,Array.getD_eq_getD_getElem?,Array.getElem?_replicate]at hd;split at hd<;>simp at hd
 refine zbq (P:=P) (gl:=gl) c (w0:=w0) (st0:=st) (G0:=G) (K:=AQ .normal) (Q:=LQ gl w0 st G AQ) (fun e m G' N T F H I L M=>⟨e,m,G',F,H,I,L,M⟩) ops.size _ rest' seen' F' st G _ a ?_ ?_
 ·refine {size:=O2,split:=q,headE:=r,doneSeen:=fun i g=>absurd g (hnone i),effDone:=fun i g y=>absurd y (o i g O2).1,closed:=fun j k b=>absurd b (hnone j),inv:=fun j b _=>(o j b O2).2,ad:=s,rel:=l,defers:=f.defers,tmps:=by rw [f.size,p],slot:= ?_,n:=p,ext:= .refl _ _,le:= .refl _};intro t C;rw [v t (fun j b _=>C j b (hnone j))];exact f.slot t
 ·refine Nat.le_trans (List.length_filter_le _ _) O2
end
end Go.Abs
end
