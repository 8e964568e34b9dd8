/- Closed runs. No condition. -/
import Derived.Test.YtkabooclnoiclaaGreatDoorK06
set_option linter.all false
section
namespace Go.K
open Go.Abs
section
variable {P:Program} {E:KE} {rd:Option Nat} {ops:Array Oper} {n:Nat} {order Es L:List Nat} {B:List (List Nat)}
def BA {K:KFr->KH->Prop} {j:Nat} (M:j∉Es) (N:j∈L):∀(c seen:List Nat) (F:KFr) (st:KH),kD2 P E rd ops Es L B c seen F st K->j∈c->(∀i∈c,i≠j->j∉B.getD i []->i<ops.size) ->
  (∀(pre post:List Nat),c=pre++j::post->∀i∈pre,∀d,zQ ops i=some d->d∉xG ops j)->F.n=n->(∀i∈c,∀d,zQ ops i=some d->d<n) ->
  ∃o tm cs,ops[j]? =some o∧kal E F.l o.op=some (tm,cs)
 | [],seen,F,st,_,z,_,_,_,_=>by cases z
 | i ::c,seen,F,st,b,z,C,g,O,p=>by
  by_cases q:i=j
  ·subst q;simp only [kD2]at b;rw [iH (by simpa using M),iI (by simpa using N)]at b;obtain⟨o,tm,cs,f,A,_⟩:=b;exact⟨o,tm,cs,f,A⟩
  ·have r:j∈c:=by
    rcases List.mem_cons.1 z with h|h
    ·exact absurd h.symm q
    ·exact h
   have H:∀d,zQ ops i=some d->d∉xG ops j:=by
    obtain⟨s,t,e⟩:=List.append_of_mem r;exact g (i::s) t (by rw [e]; rfl) i (by simp)
   have hpre':∀(pre post:List Nat),c=pre++j::post->∀i∈pre,∀d,zQ ops i=some d->d∉xG ops j:=fun pre post e T y=>g (i::pre) post (by rw [e]; rfl) T (List.mem_cons_of_mem _ y)
   have back:∀(dst:Option Tmp) (v:KV),dst=zQ ops i->(∃o tm cs,ops[j]? =some o∧kal E (F.put dst v).l o.op=some (tm,cs))->∃o tm cs,ops[j]? =some o∧kal E F.l o.op=some (tm,cs):=by
    intro dst v hd ⟨o,tm,cs,f,A⟩;refine⟨o,tm,cs,f, ?_⟩;rw [<-A];refine Wa o.op (j1 fun t Q=> ?_)
    cases m:dst with
    |none=>rfl
    | some d=>
     rw [jH (by rw [O]; exact p i (by simp) d (by rw [<-hd,m])),iH];rintro rfl;exact H t (by rw [<-hd,m]) (by unfold xG; rw [f]; simp [Q])
   have again:∀(dst:Option Tmp) (v:KV) (l:KH),dst=zQ ops i->kD2 P E rd ops Es L B c (i::seen) (F.put dst v) l K->∃o tm cs,ops[j]? =some o∧kal E F.l o.op=some (tm,cs):=fun dst v l hd k=>
    back dst v hd (BA M N c (i::seen) (F.put dst v) l k r (fun x I=>C x (List.mem_cons_of_mem _ I)) hpre' (by rw [pV]; exact O) (fun x I=>p x (List.mem_cons_of_mem _ I)))
   simp only [kD2]at b;split at b
   ·unfold oY at b
    cases f:ops[i]? with
    |none=>rw [f]at b; exact b.elim
    | some o=>
     have hd:o.dst=zQ ops i:=by simp [zQ,f]
     rw [f]at b;simp only at b;split at b
     ·obtain⟨v,h1,_,_,k⟩:=b; exact again _ v h1 hd k
     ·obtain⟨_,k⟩:=b; exact again _ _ _ hd k
     ·exact b.elim
   ·split at b
    ·obtain⟨o,tm,cs,f,_,_,_,k⟩:=b;exact again _ _ _ (by simp [zQ,f]) k
    ·obtain⟨v,_,k⟩:=b;exact again _ v st rfl k
def dM (ops:Array Oper) (L:List Nat) (listed:Array Bool) (seen:List Nat) (F:KFr):KFr:=
 {F with l:=F.l.filter fun x=>(seen.all fun j=>listed.getD j false|| !(zQ ops j==some x))&&(L.all fun j=> !(listed.getD j false)||seen.contains j|| !(zQ ops j==some x))}
def Uq {listed:Array Bool} {seen:List Nat} {F:KFr} {t:Nat} (h:∀j∈seen,¬Dn listed j->zQ ops j≠some t) (h2:∀j∈L,Dn listed j->j∉seen->zQ ops j≠some t):wD (dM ops L listed seen F).l t=wD F.l t:=by
 simp only [dM,qW];rw [iI];rw [iF,List.all_eq_true,List.all_eq_true];refine⟨fun j b=> ?_,fun j b=> ?_⟩
 ·by_cases hd:Dn listed j
  ·simp only [Dn]at hd; simp [hd]
  ·have:=h j b hd; simp [this]
 ·by_cases hd:Dn listed j
  ·by_cases c:j∈seen
   ·simp [c]
   ·have:=h2 j b hd c; simp [this]
  ·simp only [Dn,Bool.not_eq_true]at hd; simp [hd]
def WZ.mask {Fn:Fence} {w0:xi} {G0:Gh} {K:KFr->KH->Prop} {ab:Nat->Nat} {listed:Array Bool} {e seen:List Nat} {F:KFr} {st:KH} {G:Gh} {w:World} {a:Act}
  (h:WZ P E rd Fn ops n order Es L B w0 G0 K ab listed e seen F st G w a):FrR G (dM ops L listed seen F) a:=by
 refine⟨⟨h.tmps,fun t=> ?_⟩,h.defers⟩
 by_cases i:∀j∈seen,¬Dn listed j->zQ ops j≠some t
 ·by_cases c:∀j∈L,Dn listed j->j∉seen->zQ ops j≠some t
  ·rw [Uq i c]; exact h.slot t i c
  ·have:wD (dM ops L listed seen F).l t= .junk:=by
    simp only [dM,qW];rw [iH];rw [iF,List.all_eq_true,List.all_eq_true];intro b;apply c;intro j g hd k f;have:=b.2 j g;simp only [Dn]at hd;simp [hd,k,f]at this
   rw [this]; exact .junk _
 ·have:wD (dM ops L listed seen F).l t= .junk:=by
   simp only [dM,qW];rw [iH];rw [iF,List.all_eq_true,List.all_eq_true];intro b;apply i;intro j g hd f;have:=b.1 j g;simp only [Dn,Bool.not_eq_true]at hd;simp [hd,f]at this
  rw [this]; exact .junk _
open Classical in
theorem sG (hE:E.Ok P) (c:pt ops n order Es L B) (X:∀i∈L,i<ops.size) {Fn:Fence} {nn:Nat} {w0:xi} {G0:Gh} {K:KFr->KH->Prop} {Q:Exit->Act->World->Prop}
  (hK:∀fr' st' G' a' w',K fr' st'->KRel w0 G' st' w'->FrR G' fr' a'->G0.le G'->Q .normal a' w'):
  ∀ (fuel:Nat) (ab:Nat->Nat) (listed:Array Bool) (l seen:List Nat) (F:KFr) (st:KH) (G:Gh) (w:World) (a:Act),
   WZ P E rd Fn ops n order Es L B w0 G0 K ab listed l seen F st G w a->(∀e r,l=e::r->e∈Es∨(e∈L∧¬Dn listed e))->((List.range ops.size).filter fun i=> !(listed.getD i false)).length<=fuel->wpAnyIn Fn nn P .any ops Q fuel listed a w:=by
 have ends : ∀ (ab : Nat -> Nat) (listed : Array Bool) (l seen : List Nat) (F : KFr) (st : KH) (G : Gh) (w : World) (a : Act), WZ P E rd Fn ops n order Es L B w0 G0 K ab listed l seen F st G w a -> (∀ e r, l = e :: r -> e ∈ Es ∨ (e ∈ L ∧ ¬ Dn listed e)) -> (∀ i, i < ops.size -> Dn listed i) -> Q .normal a w := by
  intro ab listed l seen F st G w a h hhd hall
  have hrest:l= []:=by
   cases W:l with
   |nil=>rfl
   | cons e r=>
    exfalso
    have hs:order=seen.reverse++e::r:=by rw [<-W]; exact h.split
    have hem:e∈order:=by rw [hs]; simp
    have hde:=hall e (c.lt e hem)
    rcases hhd e r W with H|⟨_,H⟩
    ·rcases h.doneSeen e hde with h1|h1
     ·exact c.not_seen hs (by simp) h1
     ·exact(c.late e h1 (X e h1)).1 H
    ·exact H hde
  have O:=h.ad
  rw [hrest]at O
  simp only [kD2]at O
  have hsp:=h.split
  rw [hrest,List.append_nil]at hsp
  refine hK F st G a w O h.rel ⟨⟨h.tmps,fun t=>h.slot t ?_ ?_⟩,h.defers⟩ h.ext
  ·intro j f hd
   exact absurd (hall j (c.lt j (by rw [hsp]; simp [f]))) hd
  ·intro j f _ hn
   have:j∈order:=c.all j (X j f)
   rw [hsp]at this
   exact absurd (List.mem_reverse.1 this) hn
 have noReady:∀(listed:Array Bool),listed.size=ops.size->Region.ready .any ops listed= []->∀i,i<ops.size->Dn listed i:=by
  intro listed hsize W
  have key:∀p (hp:p<order.length),Dn listed order[p]:=by
   intro p
   induction p using Nat.strongRecOn with
   | _ p ih=>
    intro hp
    have hlt:=c.lt _ (List.getElem_mem hp)
    by_cases hd:Dn listed order[p]
    ·exact hd
    ·exfalso
     have:order[p]∈Region.ready .any ops listed:=by
      rw [mem_ready]
      refine⟨?_,ops[order[p]],by simp [hlt], ?_⟩
      ·have m:order[p]<listed.size:=by rw [hsize]; exact hlt
       simp only [Dn]at hd
       simp [Array.getD,m]at hd ⊢
       exact hd
      ·intro e H hb
       have hk:e.on∈dp ops order[p]:=by
        unfold dp
        rw [show ops[order[p]]? =some ops[order[p]]by simp [hlt]]
        exact List.mem_map.2 ⟨e,List.mem_filter.2 ⟨by simpa using H,hb⟩,rfl⟩
       obtain⟨q,hq,hql,hqe⟩:=wZ (c.topo p hp _ hk)
       rw [<-hqe]; exact ih q hq hql
     rw [W]at this; cases this
  intro i U
  obtain⟨p,hp,H⟩:=List.getElem_of_mem (c.all i U)
  rw [<-H]; exact key p hp
 intro fuel
 induction fuel with
 | zero=>
  intro ab listed l seen F st G w a h hhd hf
  have hall:∀i,i<ops.size->Dn listed i:=by
   intro i U
   have:((List.range ops.size).filter fun i=> !(listed.getD i false))= []:=List.eq_nil_of_length_eq_zero (Nat.le_zero.1 hf)
   rw [List.filter_eq_nil_iff]at this
   have:=this i (by simpa using U)
   simpa [Dn] using this
  refine⟨?_,ends ab listed l seen F st G w a h hhd hall⟩
  cases W:Region.ready .any ops listed with
  |nil=>rfl
  | cons i r=>
   exfalso
   have hm:i∈Region.ready .any ops listed:=by rw [W]; simp
   rw [mem_ready]at hm
   obtain⟨h1,o,ho,_⟩:=hm
   have U:i<ops.size:=(Array.getElem?_eq_some_iff.1 ho).1
   have h2:=hall i U
   have m:i<listed.size:=by rw [h.size]; exact U
   simp only [Dn]at h2
   simp [Array.getD,m]at h1 h2
   rw [h1]at h2; cases h2
 | succ fuel ih=>
  intro ab listed l seen F st G w a h hhd hf
  refine⟨fun W=>ends ab listed l seen F st G w a h hhd (noReady listed h.size W), ?_⟩
  intro i hir
  rw [mem_ready]at hir
  obtain⟨hun,o,ho,hpre⟩:=hir
  have U:i<ops.size:=(Array.getElem?_eq_some_iff.1 ho).1
  have m:i<listed.size:=by rw [h.size]; exact U
  have hnd:¬Dn listed i:=by
   simp only [Dn]; simp [Array.getD,m]at hun ⊢; exact hun
  have hdp:∀k∈dp ops i,Dn listed k:=by
   intro k hk
   unfold dp at hk
   rw [ho]at hk
   obtain⟨e,H,rfl⟩:=List.mem_map.1 hk
   obtain⟨he1,he2⟩:=List.mem_filter.1 H
   exact hpre e (by simpa using he1) he2
  have hB:=c.ready h.closed U hdp
  have hfuel:((List.range ops.size).filter fun k=> !((listed.setIfInBounds i true).getD k false)).length<=fuel:=by
   have:=Abs.filter_lt (p:=fun k=> !(listed.getD k false)) (q:=fun k=> !((listed.setIfInBounds i true).getD k false)) (List.range ops.size) (by
    intro k _ hk
    by_cases hki:i=k
    ·subst hki; simp [m]at hk
    ·rwa [getD_set_ne false hki]at hk) ⟨i,by simpa using U,by simpa [Dn] using hnd,by simp [m]⟩
   omega
  have hsize':(listed.setIfInBounds i true).size=ops.size:=by simp [h.size]
  have hclosed':vn ops (listed.setIfInBounds i true):=by
   intro j k f hk
   rw [wa m]at f ⊢
   rcases f with rfl|f
   ·exact .inr (hdp k hk)
   ·exact .inr (h.closed j k f hk)
  have him:i∈order:=c.all i U
  have headSeen:∀e r,l=e::r->i∉seen->i∉L->i=e:=by
   intro e r W M hiL
   have hsplit:order=seen.reverse++e::r:=by rw [<-W]; exact h.split
   have hirest:i∈e::r:=by
    have:=him
    rw [hsplit]at this
    rcases List.mem_append.1 this with h1|h1
    ·exact absurd (List.mem_reverse.1 h1) M
    ·exact h1
   rcases List.mem_cons.1 hirest with h1|h1
   ·exact h1
   ·exfalso
    have hpos:seen.length<order.length:=by rw [hsplit]; simp
    have hat:order[seen.length]=e:=by
     subst hsplit
     rw [List.getElem_append_right (by simp)]
     simp
    have hEL:e∈Es∨e∈L:=(hhd e r W).imp id (·.1)
    have hb:=c.waits seen.length hpos (by rw [hat]; exact hEL) i (by
     rw [hsplit,List.drop_append]
     simp [h1]) hiL
    rw [hat]at hb
    have hde:=hB e hb
    rcases hhd e r W with H|⟨_,H⟩
    ·rcases h.doneSeen e hde with h2|h2
     ·exact c.not_seen hsplit (by simp) h2
     ·exact(c.late e h2 (X e h2)).1 H
    ·exact H hde
  have hreads:∀t∈xG ops i,(∀j∈seen,¬Dn listed j->zQ ops j≠some t)∧(∀j∈L,Dn listed j->j∉seen->zQ ops j≠some t):=by
   intro t ht
   constructor
   ·intro j f hd hdj
    have hjm:j<ops.size:=c.lt j (by rw [h.split]; simp [f])
    rcases c.reads i U t ht j hjm hdj with h1|h1
    ·exact hd (hB j h1)
    ·exact hd (h.effDone j f (.inl h1.1))
   ·intro j f hd A hdj
    rcases c.reads i U t ht j (X j f) hdj with h1|h1
    ·by_cases hiL:i∈L
     ·exact(c.late i hiL U).2.2 t ht j f hdj
     ·by_cases M:i∈seen
      ·exact A (c.seen h.split M j h1)
      ·cases W:l with
       | nil=>
        have:=h.split
        rw [W,List.append_nil]at this
        rw [this]at him
        exact M (List.mem_reverse.1 him)
       | cons e r=>
        have hie:=headSeen e r W M hiL
        subst hie
        have hsplit:order=(i::seen).reverse++r:=by have:=h.split; rw [W]at this; rw [this]; simp
        have:=c.seen hsplit (j:=i) (by simp) j h1
        rcases List.mem_cons.1 this with h2|h2
        ·subst h2; exact hnd hd
        ·exact A h2
    ·exact(c.late j f (X j f)).1 h1.1
  have hmr:∀t∈xG ops i,wD F.l t=wD (dM ops L listed seen F).l t:=fun t ht=>(Uq (hreads t ht).1 (hreads t ht).2).symm
  have hmask:=h.mask
  have hmo:∀x∈o.op.operands,KR G (zp E.ng F.l x) (a.eval x):=fun x I=>by
   rw [j1 (F':=dM ops L listed seen F) (fun t ht=>hmr t (by unfold xG; rw [ho]; simp [ht])) x I]
   exact hmask.eval h.gl hE.ng x
  have hwant:∀t,wR ops F.l o=some t->Region.wanted o (yielded ops a.tmps)=t:=by
   intro t ht
   rw [ZX ho hmr]at ht
   exact b7 hmask ht
  have N:zQ ops i=o.dst:=by simp [zQ,ho]
  have hsame:∀ {cv:Value} {d:Nat},zQ ops i≠some d->(a.put o.dst cv).tmps.getD d undef=a.tmps.getD d undef:=by
   intro cv d hne
   cases hd:o.dst with
   |none=>rfl
   | some e=>
    have hen:e<a.tmps.size:=by rw [h.tmps,h.n]; exact c.dlt i U e (by rw [N,hd])
    rw [gQ hen,iH]
    rintro rfl
    exact hne (by rw [N,hd])
  have hput:∀ {cv:Value},(a.put o.dst cv).tmps.size=F.n:=by
   intro cv
   simp only [Act.put]; cases o.dst<;>simp [h.tmps]
  have hdef:∀ {cv:Value} {G':Gh},G.le G'->KDs G' F.d (a.put o.dst cv).defers:=by
   intro cv G' I
   simp only [Act.put]; cases o.dst<;>exact h.defers.le I
  let R:Nat->Prop:=fun b=>∃j,j∈L∧Dn listed j∧j∉seen∧b=ab j
  have hR:∀b,R b->b<w.heap.size∧UX st G b:=by
   rintro b ⟨j,h1,h2,h3,rfl⟩
   obtain⟨_,_,_,_,_,_,_,_,q,_,q2,_⟩:=h.ahead j h1 h2 h3
   exact⟨heap_lt q,q2⟩
  unfold wpOpIn
  rw [ho]
  simp only
  by_cases M:i∈seen
  ·
   have hstill:=h.inv i M hnd
   have hiE:i∉Es:=fun H=>hnd (h.effDone i M (.inl H))
   have hiL:i∉L:=fun H=>hnd (h.effDone i M (.inr H))
   have cont:∀(v:KV) (cv:Value) (G':Gh) (w':World),(∀d,o.dst=some d->wD F.l d=v)->KR G' v cv->KRel w0 G' st w'->G.le G'->(∀b,R b->w'.heap[b]? =w.heap[b]? ∧UX st G' b)->wpAnyIn Fn nn P .any ops Q fuel (listed.setIfInBounds i true) (a.put o.dst cv) w':=by
    intro v cv G' w' hv hvr hrel I hkeep
    refine ih ab _ l seen F st G' w' _ ?_ (fun e r H=>(hhd e r H).imp id fun q=>⟨q.1,fun hd=>by
     rw [wa m]at hd
     rcases hd with rfl|hd
     ·exact hiL q.1
     ·exact q.2 hd⟩) hfuel
    refine {size:=hsize',split:=h.split,doneSeen:= ?_,effDone:= ?_,closed:=hclosed',inv:= ?_,ad:=h.ad,rel:=hrel,defers:=hdef I,tmps:=hput,ahead:= ?_,inj:= ?_,slot:= ?_,n:=h.n,ext:=h.ext.trans I,gl:=h.gl.le I,rd:=h.rd.le I}
    ·intro j f
     rw [wa m]at f
     rcases f with rfl|f
     ·exact .inl M
     ·exact h.doneSeen j f
    ·intro j f H; rw [wa m]; exact .inr (h.effDone j f H)
    ·intro j f hd; rw [wa m]at hd; exact h.inv j f fun Z=>hd (.inr Z)
    ·intro j f hd A
     have Y:j≠i:=fun q=>hiL (q▸f)
     have hd:Dn listed j:=by
      rw [wa m]at hd
      exact hd.resolve_left Y
     have:=hkeep (ab j) ⟨j,f,hd,A,rfl⟩
     exact(h.ahead j f hd A).turn (fun _ _=>rfl) I this.1 this.2 (fun d hdd=>hsame (c.uniq j i (X j f) U Y d hdd))
    ·intro x I y hy hxd hyd hxn hyn
     have e1:∀ {z},z∈L->Dn (listed.setIfInBounds i true) z->Dn listed z:=fun {z} hz hd=>by
      rw [wa m]at hd
      exact hd.resolve_left fun q=>hiL (q▸hz)
     exact h.inj x I y hy (e1 I hxd) (e1 hy hyd) hxn hyn
    ·intro t ht1 ht2
     have old:zQ ops i≠some t->KR G' (wD F.l t) (a.tmps.getD t undef):=fun hne=>(h.slot t (fun j f T H=>by
      by_cases Y:j=i
      ·subst Y; exact hne H
      ·exact ht1 j f (by rw [wa m]; rintro(h1|h1); exact Y h1; exact T h1) H) (fun j f hjd A=>ht2 j f (by rw [wa m]; exact .inr hjd) A)).le I
     cases hd:o.dst with
     |none=>exact old (by rw [N,hd]; simp)
     | some d=>
      have T:d<a.tmps.size:=by rw [h.tmps,h.n]; exact c.dlt i U d (by rw [N,hd])
      rw [gQ T]
      by_cases htd:t=d
      ·subst htd
       rw [iI rfl,hv t hd]
       exact hvr
      ·rw [iH htd]
       exact old (by rw [N,hd]; intro q; injection q with q; exact htd q.symm)
   obtain ⟨v,hv,hvd⟩:∃v,jN P E.ng rd ops i F st v∧∀d,o.dst=some d->wD F.l d=v:=by
    unfold qJ at hstill
    rw [N]at hstill
    cases hd:o.dst with
    |none=>rw [hd]at hstill; obtain⟨v,hv⟩:=hstill; exact⟨v,hv,by simp⟩
    |some d=>rw [hd]at hstill; exact⟨_,hstill,by intro e H; injection H with H; rw [H]⟩
   unfold jN at hv
   rw [ho]at hv
   simp only at hv
   cases hw:wR ops F.l o with
   |none=>rw [hw]at hv; exact hv.elim
   | some t=>
    rw [hw]at hv
    cases t with
    | true=>
     rw [iI (hwant _ hw)]
     exact KDo.reserve hv R hR h.gl h.rd h.rel hmo fun cv G' w' g1 g2 g3 g4=>cont v cv G' w' hvd g2 g3 g1 g4
    | false=>
     rw [iH (by rw [hwant _ hw]; simp)]
     simp only at hv
     subst hv
     exact⟨fun g _=>h.rd.fn g,cont (.tuple []) undef G w hvd (.tuple rfl (by simp)) h.rel (.refl _) fun b hb=>⟨rfl,(hR b hb).2⟩⟩
  ·by_cases hiL:i∈L
   ·
    have hiE:=(c.late i hiL U).1
    have hirest:i∈l:=by
     have:=him
     rw [h.split]at this
     rcases List.mem_append.1 this with h1|h1
     ·exact absurd (List.mem_reverse.1 h1) M
     ·exact h1
    have hordlt:∀x∈l,x<ops.size:=fun x I=>c.lt x (by rw [h.split]; simp [I])
    obtain ⟨o',tm,cs,ho',hk⟩:=BA (n:=n) hiE hiL l seen F st h.ad hirest (fun x I _ _=>hordlt x I) (by
     intro pre post hpp x I d hd W
     have hsp:order=seen.reverse++(pre++i::post):=by rw [<-hpp]; exact h.split
     have hxr:x∈l:=by rw [hpp]; simp [I]
     have hxs:x∉seen:=c.not_seen h.split hxr
     rcases c.reads i U d W x (hordlt x hxr) hd with h1|h1
     ·rcases h.doneSeen x (hB x h1)with h2|h2
      ·exact hxs h2
      ·exact(c.late i hiL U).2.2 d W x h2 hd
     ·rcases h1.2 with h2|h2
      ·subst h2; exact hiE h1.1
      ·
       obtain⟨s,t,hst⟩:=List.append_of_mem I
       have hsp2:order=(x::(seen.reverse++s).reverse).reverse++(t++i::post):=by rw [hsp,hst]; simp
       have:=c.seen hsp2 (j:=x) (by simp) i h2
       have hnot:=c.not_seen hsp2 (i:=i) (by simp)
       exact hnot this) h.n (fun x I d hd=>c.dlt x (hordlt x I) d hd)
    rw [ho]at ho'; injection ho' with ho'; subst ho'
    have hguard:=(c.late i hiL U).2.1 o ho
    rw [iI (by unfold Region.wanted; rw [hguard])]
    refine zbC (B:=w0) (h:=st) hE h.gl h.rd hmo hk ?_
    intro cv C el room q1 q2 q3 q4
    have hpre':WZ P E rd Fn ops n order Es L B w0 G0 K (fun j=>if j=i then w.heap.size else ab j) (listed.setIfInBounds i true) l seen F st G (w.alloc (.cells C el)) (a.put o.dst cv):=by
     refine {size:=hsize',split:=h.split,doneSeen:= ?_,effDone:= ?_,closed:=hclosed',inv:= ?_,ad:=h.ad,rel:=h.rel.junk _,defers:=hdef (.refl _),tmps:=hput,ahead:= ?_,inj:= ?_,slot:= ?_,n:=h.n,ext:=h.ext,gl:=h.gl,rd:=h.rd}
     ·intro j f
      rw [wa m]at f
      rcases f with rfl|f
      ·exact .inr hiL
      ·exact h.doneSeen j f
     ·intro j f H; rw [wa m]; exact .inr (h.effDone j f H)
     ·intro j f hd; rw [wa m]at hd; exact h.inv j f fun Z=>hd (.inr Z)
     ·intro j f hd A
      by_cases Y:j=i
      ·subst Y
       simp only [if_true]
       refine⟨o,tm,cs,C,el,room,ho,hk, ?_,h.rel.kept.size, ?_,q1,q2,q3, ?_⟩
       ·show(w.heap.push _)[w.heap.size]? =_; simp
       ·intro id x k e1 e2
        exact absurd (h.rel.lt _ _ _ e2).1 (Nat.lt_irrefl _)
       ·intro d Z G' id g1 g2
        have T:d<a.tmps.size:=by rw [h.tmps,h.n]; exact c.dlt j U d (by rw [N,Z])
        rw [Z,gQ T,iI rfl]
        exact q4 G' id g1 g2
      ·have hd:Dn listed j:=by
        rw [wa m]at hd
        exact hd.resolve_left Y
       simp only [iH Y]
       have hA:=h.ahead j f hd A
       have hq:=(hR (ab j) ⟨j,f,hd,A,rfl⟩)
       exact hA.turn (fun _ _=>rfl) (.refl _) (Go.RowKit.Below.heap_alloc _ _ _ hq.1) hq.2 (fun d hdd=>hsame (c.uniq j i (X j f) U Y d hdd))
     ·intro x I y hy hxd hyd hxn hyn H
      have e1:∀ {z},z≠i->Dn (listed.setIfInBounds i true) z->Dn listed z:=fun {z} hz hd=>by
       rw [wa m]at hd
       exact hd.resolve_left hz
      by_cases hxi:x=i
      ·by_cases hyi:y=i
       ·exact hxi.trans hyi.symm
       ·exfalso
        simp only [iI hxi,iH hyi]at H
        have:=(hR (ab y) ⟨y,hy,e1 hyi hyd,hyn,rfl⟩).1
        omega
      ·by_cases hyi:y=i
       ·exfalso
        simp only [iI hyi,iH hxi]at H
        have:=(hR (ab x) ⟨x,I,e1 hxi hxd,hxn,rfl⟩).1
        omega
       ·simp only [iH hxi,iH hyi]at H
        exact h.inj x I y hy (e1 hxi hxd) (e1 hyi hyd) hxn hyn H
     ·intro t ht1 ht2
      have hne:zQ ops i≠some t:=ht2 i hiL (by rw [wa m]; exact .inl rfl) M
      rw [hsame hne]
      exact h.slot t (fun j f T=>ht1 j f (by
       rw [wa m]
       rintro(h1|h1)
       ·subst h1; exact M f
       ·exact T h1)) (fun j f hjd A=>ht2 j f (by rw [wa m]; exact .inr hjd) A)
    obtain⟨rest',seen',F',st',G',hp,hh⟩:=hpre'.norm c
    exact ih _ _ rest' seen' F' st' G' _ _ hp hh hfuel
   ·
    cases W:l with
    | nil=>
     exfalso
     have:=h.split
     rw [W,List.append_nil]at this
     rw [this]at him
     exact M (List.mem_reverse.1 him)
    | cons e r=>
     have hie:=headSeen e r W M hiL
     subst hie
     have hiE:i∈Es:=by
      rcases hhd i r W with h1|h1
      ·exact h1
      ·exact absurd h1.1 hiL
     have hsplit:order=seen.reverse++i::r:=by rw [<-W]; exact h.split
     have O:=h.ad
     rw [W]at O
     simp only [kD2]at O
     rw [iI (by simpa using hiE)]at O
     have cont:∀(v:KV) (cv:Value) (st1:KH) (G':Gh) (w':World),pw P E.ng rd ops (Es++L) (B.getD i []) seen (F.put o.dst v) st1->kD2 P E rd ops Es L B r (i::seen) (F.put o.dst v) st1 K->KR G' v cv->KRel w0 G' st1 w'->G.le G'->(∀b,R b->w'.heap[b]? =w.heap[b]? ∧UX st1 G' b) ->
       wpAnyIn Fn nn P .any ops Q fuel (listed.setIfInBounds i true) (a.put o.dst cv) w':=by
      intro v cv st1 G' w' hstab had' hvr hrel I hkeep
      have hpre':WZ P E rd Fn ops n order Es L B w0 G0 K ab (listed.setIfInBounds i true) r (i::seen) (F.put o.dst v) st1 G' w' (a.put o.dst cv):=by
       refine {size:=hsize',split:=by rw [hsplit]; simp,doneSeen:= ?_,effDone:= ?_,closed:=hclosed',inv:= ?_,ad:=had',rel:=hrel,defers:=by rw [Qq]; exact hdef I,tmps:=by rw [pV]; exact hput,ahead:= ?_,inj:= ?_,slot:= ?_,n:=by rw [pV]; exact h.n,ext:=h.ext.trans I,gl:=h.gl.le I,rd:=h.rd.le I}
       ·intro j f
        rw [wa m]at f
        rcases f with rfl|f
        ·exact .inl (by simp)
        ·exact(h.doneSeen j f).imp (List.mem_cons_of_mem _) id
       ·intro j f H
        rw [wa m]
        rcases List.mem_cons.1 f with h1|h1
        ·exact .inl h1
        ·exact .inr (h.effDone j h1 H)
       ·intro j f hd
        rw [wa m]at hd
        rcases List.mem_cons.1 f with h1|h1
        ·exact absurd (.inl h1) hd
        ·exact pR hstab j h1 (fun H=>hd (.inr (h.effDone j h1 (.inl H)))) (fun H=>hd (.inr (h.effDone j h1 (.inr H)))) (fun hb=>hd (.inr (hB j hb)))
       ·intro j f hd A
        simp only [List.mem_cons,not_or]at A
        have hd:Dn listed j:=by
         rw [wa m]at hd
         exact hd.resolve_left A.1
        have hq:=hkeep (ab j) ⟨j,f,hd,A.2,rfl⟩
        refine(h.ahead j f hd A.2).turn ?_ I hq.1 hq.2 (fun d hdd=>hsame (c.uniq j i (X j f) U A.1 d hdd))
        intro t ht
        cases Z:o.dst with
        |none=>rfl
        | some d=>
         have T:d<F.n:=by rw [h.n]; exact c.dlt i U d (by rw [N,Z])
         rw [jH T,iH]
         rintro rfl
         rcases c.reads j (X j f) t ht i U (by rw [N,Z])with h1|h1
         ·exact hnd (c.dn h.closed (X j f) hd i h1)
         ·rcases h1.2 with h2|h2
          ·exact A.1 h2.symm
          ·have hsp2:order=(i::seen).reverse++r:=by rw [hsplit]; simp
           rcases List.mem_cons.1 (c.seen hsp2 (j:=i) (by simp) j h2)with h3|h3
           ·exact A.1 h3
           ·exact A.2 h3
       ·intro x I y hy hxd hyd hxn hyn
        simp only [List.mem_cons,not_or]at hxn hyn
        have e1:∀ {z},z≠i->Dn (listed.setIfInBounds i true) z->Dn listed z:=fun {z} hz hd=>by
         rw [wa m]at hd
         exact hd.resolve_left hz
        exact h.inj x I y hy (e1 hxn.1 hxd) (e1 hyn.1 hyd) hxn.2 hyn.2
       ·intro t ht1 ht2
        have old:KR G' (wD F.l t) (a.tmps.getD t undef):=(h.slot t (fun j f T=>ht1 j (List.mem_cons_of_mem _ f) (by
         rw [wa m]
         rintro(h1|h1)
         ·subst h1; exact M f
         ·exact T h1)) (fun j f hjd A=>ht2 j f (by rw [wa m]; exact .inr hjd) (by
          simp only [List.mem_cons,not_or]
          exact⟨fun q=>hiL (q▸f),A⟩))).le I
        cases hd:o.dst with
        |none=>exact old
        | some d=>
         have T:d<F.n:=by rw [h.n]; exact c.dlt i U d (by rw [N,hd])
         rw [gQ (by rw [h.tmps]; exact T),jH T]
         by_cases htd:t=d
         ·rw [iI htd,iI htd]; exact hvr
         ·rw [iH htd,iH htd]; exact old
      obtain⟨rest',seen',F',st',G'',hp,hh⟩:=hpre'.norm c
      exact ih _ _ rest' seen' F' st' G'' _ _ hp hh hfuel
     unfold oY at O
     rw [ho]at O
     simp only at O
     cases hw:wR ops F.l o with
     |none=>rw [hw]at O; exact O.elim
     | some t=>
      rw [hw]at O
      cases t with
      | true=>
       obtain⟨v,st1,hv,k1,k2⟩:=O
       rw [iI (hwant _ hw)]
       exact KDo.reserve hv R hR h.gl h.rd h.rel hmo fun cv G' w' g1 g2 g3 g4=>cont v cv st1 G' w' k1 k2 g2 g3 g1 g4
      | false=>
       rw [iH (by rw [hwant _ hw]; simp)]
       obtain⟨k1,k2⟩:=O
       exact⟨fun g _=>h.rd.fn g,cont (.tuple []) undef st G w k1 k2 (.tuple rfl (by simp)) h.rel (.refl _) fun b hb=>⟨rfl,(hR b hb).2⟩⟩
def nB {fr fr':KFr} {h h':KH} {id:Nat} (p:E.Ok P) (s:P.follows .mixedOrders=true) (c:pt ops fr.n order Es L B) (b:∀i∈L,i<ops.size)
  (k:kD2 P E rd ops Es L B order [] fr h fun f t=>f=fr'∧t=h'):KC P rd (.region id ops true) fr h .normal fr' h':=by
 intro w0 G w a F nn q x kr f;refine wpIn_region_any s ?_
 have hnone:∀j,¬Dn (Array.replicate ops.size false) j:=by
  intro j hd;simp only [Dn,Array.getD_eq_getD_getElem?,Array.getElem?_replicate]at hd;split at hd<;>simp at hd
 have v:WZ P E rd F ops fr.n order Es L B w0 G (fun f t=>f=fr'∧t=h') (fun _=>0) (Array.replicate ops.size false) order [] fr h G {w with drawn:=w.drawn+1} a:=
  {size:=by simp,split:=by simp,doneSeen:=fun i e=>absurd e (hnone i),effDone:=fun i e=>(by cases e),closed:=fun j k g=>absurd g (hnone j),inv:=fun j g=>(by cases g),ad:=k,rel:=kr.of_heap rfl rfl rfl rfl,defers:=f.ds,tmps:=f.sl.size,ahead:=fun j _ hd=>absurd hd (hnone j),inj:=fun i _ j _ hd=>absurd hd (hnone i),slot:=fun t _ _=>f.sl.slot t,n:=rfl,ext:= .refl _,gl:=q,rd:=x}
 obtain⟨rest',seen',F',m,G',l,r⟩:=v.norm c;refine sG (rd:=rd) p c b (w0:=w0) (G0:=G) (Fn:=F) (nn:=nn) (K:=fun f t=>f=fr'∧t=h') (Q:=Zy w0 G .normal fr' h') (fun I C G1 H w1 o y z A=>⟨rfl,G1,A,o.1▸z,o.2▸y⟩) ops.size _ _ rest' seen' F' m G' _ a l r ?_;refine Nat.le_trans (List.length_filter_le _ _) (by simp)
end
def QJ (P:Program) (f:FuncId) (args:List KV) (h:KH) (h':KH):Prop:=
 ∀ (B:xi) (G:Gh) (w:World) (u:FrameMode) (b:Array Value) (n:Nat),Glob P G->KRel B G h w->KRs G args b ->
  CallsDIn Fence.wide n P f b u w fun en e w1=>e=u∧∃c G',en= .returned c∧G.le G'∧KRel B G' h' w1
section
variable {P:Program} {E:KE} {S:KF_} {B:xi} {G:Gh} {h h1 h':KH} {w:World} {fr fr':KFr} {a:Act}
def lf (s:E.Ok P) {f:FuncId} {fn:Func} {c:Code} {args:List KV} {e:Exit} {r:KV} (A:P.funcs[f]? =some fn) (v:fn.body=some c) (F:args.length<=fn.ntmps)
  (k:KC P none c (XL fn args) h e fr' h') (z:e= .normal∨e= .ret) (hd:fr'.d= []) (I:eX E h' fr'.l fn.results=some r):QJ P f args h h':=fun B G w u i n C kr t=>by
 refine(callsDIn_of_wp (R:=fun en w1=>∃c G',en= .returned c∧G.le G'∧KRel B G' h' w1) A v trivial ?_).mono fun _ _ _ q=>q;refine wpIn_mono (k B G w _ Fence.wide n C .out kr (Ua t F)) ?_;rintro M l w1 ⟨rfl,G',o,p,j⟩;have b:=p.ds;rw [hd]at b;have g:l.defers= []:=by cases H:l.defers with|nil=>rfl|cons x y=>rw [H]at b; cases b
 obtain⟨cv,m,K⟩:=Gt (P:=P) s j p.sl I;rcases z with rfl|rfl
 ·exact⟨g,cv,m,cv,G',rfl,o,j⟩
 ·exact⟨g,cv,m,cv,G',rfl,o,j⟩
inductive Zv (P:Program) (S:KF_):List KD->KH->KH->Prop
 |nil {h:KH}:Zv P S [] h h
 |fn {f:FuncId} {fn:Func} {c:Code} {cap args:List KV} {ds:List KD} {h h1 h':KH}:S.F f=some fn->fn.body=some c->QJ P f (args++cap) h h1->Zv P S ds h1 h'->Zv P S (.fn (.func f) cap args::ds) h h'
 |collected {id:Nat} {ds:List KD} {h h':KH}:h.get id=some (.defd (some []))->Zv P S ds (h.set id (some (.defd none))) h'->Zv P S (.collected id::ds) h h'
def P2 {w:World} {b:Nat} {x y:Obj} (f:w.heap[b]? =some x):Chg w (w.putObj b y) b y:=by
 have e:=heap_lt f;exact {size:=World.putObj_size,at_:=World.putObj_heap_same e,other:=fun k c=>World.putObj_heap_other c,os:=rfl,tape:=rfl,output:=rfl}
def Dg (M:S.Ok P) {fn:Func} {tmps:Array Value} {R:Ending->World->Prop} {n:Nat}:∀ {j:List KD} {h h':KH},Zv P S j h h'->∀ {G:Gh} {w:World} {cds:List Deferred},Glob P G->KRel B G h w->KDs G j cds ->
  (∀G' w1,G.le G'->KRel B G' h' w1->LeavesIn Fence.wide n P fn tmps R [] .returning w1)->LeavesInM Fence.wide n P fn tmps R cds .returning w:=by
 intro j h h' kl
 induction kl with
 | nil=>
  intro G w cds o kr hd p;cases hd;exact p G w (.refl _) kr
 | @fn f fn' c cap z j h h1 h' Q N O T s=>
  intro G w cds o kr hd p
  cases hd with
  | cons hd i=>
   cases hd with
   | fn l hargs=>
    rename_i r cc A;refine⟨by simp, .inr ⟨fun hd=>(by cases hd), .func f,cc,f,A++cc,rfl, ?_,fun g _=>trivial, ?_⟩⟩
    ·exact qI M Q N _ _
    ·refine(O B G w .returning (A++cc) (n-1) o kr (KRs.append hargs l)).mono ?_;rintro en X w1 ⟨rfl,cv,G',rfl,q,K⟩;exact s (o.le q) K (i.le q) fun G'' x t v=>p G'' x (q.trans t) v
 | @collected id j h h' e T s=>
  intro G w cds o kr hd p
  cases hd with
  | cons hd i=>
   cases hd with
   | collected H=>
    rename_i r b k;obtain⟨U,W,ob,C,_,F,I⟩:=kr.blk _ _ e;rw [H]at C; cases C
    cases I with
    | defd m=>
     cases m;have kr':=kr.chg e rfl rfl H (P2 (y:= .deferred none) F) .defd0;exact⟨by simp, .inl ⟨b,_,rfl,run_takeDeferred F,s o kr' i fun G'' x t v=>p G'' x t v⟩⟩
def fJ (t:E.Ok P) (v:S.Ok P) {f:FuncId} {fn:Func} {c:Code} {args:List KV} {e:Exit} {r:KV} (A:P.funcs[f]? =some fn) (y:fn.body=some c) (F:args.length<=fn.ntmps)
  (k:KC P none c (XL fn args) h e fr' h1) (z:e= .normal∨e= .ret) (C:Zv P S fr'.d h1 h') (H:eX E h' fr'.l fn.results=some r):KCall P f args h r h':=fun B G w b n l kr x=>by
 refine callsIn_of_wp_marks A y trivial ?_;refine wpIn_mono (k B G w _ Fence.wide n l .out kr (Ua x F)) ?_;rintro I g w1 ⟨rfl,G',i,j,s⟩
 have key:LeavesInM Fence.wide n P fn g.tmps (fun en w1=>∃c G',en= .returned c∧G.le G'∧KR G' r c∧KRel B G' h' w1) g.defers .returning w1:=by
  refine Dg v C (l.le i) s j.ds ?_;intro G2 K m o;obtain⟨cv,p,q⟩:=Gt (P:=P) t o (j.sl.le m) H;exact⟨cv,p,cv,G2,rfl,i.trans m,q,o⟩
 rcases z with rfl|rfl
 ·exact key
 ·exact key
def lY (z:E.Ok P) {ops:Array Oper} {i:Nat} {is:List Nat} {o:Oper} {cl:Call} {fo:Operand} {f:FuncId} {first cap:List KV} (hi:ops[i]? =some o) (r:o.op= .defer cl) (H:wR ops fr.l o=some true)
  (t:cl.callee= .value fo) (C:zp E.ng fr.l fo= .func (.func f) first cap)
  (k1:KO_ P none ops is ({fr with d:= .fn (.func f) cap (first++cl.args.toList.map (zp E.ng fr.l))::fr.d}.put o.dst (.tuple [])) h fr' h'):KO_ P none ops (i::is) fr h fr' h':=fun B G w a F n Q v y k b A=>by
 have c:=fun x=>b.eval v z.ng x;simp only [wpOpsIn,hi,b7 b H,if_true];refine⟨fun g _=>y.fn g, ?_⟩;cases y;obtain⟨callee,args,tys⟩:=cl;simp only at t;subst t;have s:=c fo;rw [C]at s;generalize m:a.eval fo=cv at s
 cases s with
 | func I M K N=>
  rename_i j l
  have e:(o.semAt Fence.wide.round a.eval).run P w= .ok (.defer ⟨.fn (.func f) l,j++args.map a.eval⟩) w:=by
   have:o.semAt Fence.wide.round a.eval=execOp a.eval o:=rfl;rw [this];simp only [execOp,r,resolve,iB,m,Deferred.ofValue,iC,iA]
  rw [e];have p:KDs G (.fn (.func f) cap (first++args.toList.map (zp E.ng fr.l))::fr.d) (⟨.fn (.func f) l,j++args.map a.eval⟩::a.defers):= .cons (.fn ⟨K,N⟩ (KRs.append ⟨I,M⟩ (dq (E:=E) c args))) b.ds;have q:FrR G {fr with d:= .fn (.func f) cap (first++args.toList.map (zp E.ng fr.l))::fr.d} {a with defers:=⟨.fn (.func f) l,j++args.map a.eval⟩::a.defers}:=⟨b.sl,p⟩
  exact k1 B G w _ Fence.wide n Q v .out k (q.put o.dst (.tuple rfl (by simp))) A
end
def ua.fr (L:ua):KFr:=⟨L.n,L.l,[]⟩
def Ux:List Tmp->List KV->KFr->KFr
 |t::b,v::c,fr=>Ux b c (fr.put (some t) v)
 |_,_,fr=>fr
def Y6:Exit->Option (Option Code)
 | .normal=>some none
 | .ret=>some (some .ret)
 | .exit i=>some (some (.exit i))
 | .goto t=>some (some (.goto t))
 |_=>none
section
variable {P:Program} {E:KE} {S:KF_} {B:xi} {G:Gh} {h h1 h2 h3 h':KH} {w:World} {fr fr1 fr3 fr':KFr} {a:Act} {rd:Option Nat}
def BL:∀ {j:List Tmp} {b:List KV} {cs:List Value} {fr:KFr} {tmps:Array Value},b.length=cs.length->(∀(i:Nat) v c,b[i]? =some v->cs[i]? =some c->KR G v c)->FrR G fr {tmps,defers:= []} ->
  FrR G (Ux j b fr) {tmps:=(j.zip cs).foldl (fun tmps (t,a)=>tmps.setIfInBounds t a) tmps,defers:= []}
 | [],b,cs,fr,tmps,f,g,e=>by cases b<;>exact e
 | t::j,[],cs,fr,tmps,f,g,e=>by
  have:cs= []:=List.eq_nil_of_length_eq_zero (by simpa using f.symm);subst this; exact e
 |t::j,v::b,[],fr,tmps,f,g,e=>by simp at f
 | t::j,v::b,c::cs,fr,tmps,f,g,e=>by
  simp only [Ux,List.zip_cons_cons,List.foldl_cons];exact BL (by simpa using f) (fun i u x h1 h2=>g (i+1) u x (by simpa using h1) (by simpa using h2)) (e.put (some t) (g 0 v c rfl rfl))
def KRel.loop (r:KRel B G h w) {id:Nat} {L:ua} (m:h.get id=some (.loop L)):∃b k C,G.at_ id=some (b,k)∧w.heap[b]? =some (.loop C)∧KO.R G (G.room id) k (.loop L) (.loop C):=by
 obtain⟨b,k,ob,i,_,j,l⟩:=r.blk _ _ m
 cases l with
 |loop a b c d e f g=>exact⟨_,_,_,i,j, .loop a b c d e f g⟩
def KRel.loopSet (r:KRel B G h w) {id b k:Nat} {L:ua} {C:Loop} (m:h.get id=some (.loop L)) (j:G.at_ id=some (b,k)) (l:w.heap[b]? =some (.loop C)) (q:KO.R G (G.room id) k (.loop L) (.loop C)) (s:LoopState) (p:Option Code) {i:Option Code} (o:i=p:=by rfl):
  KRel B G (h.set id (some (.loop {L with state:=s,pending:=p}))) (w.putObj b (.loop {C with state:=s,pending:=i})):=by
 subst o;refine r.chg m rfl rfl j (P2 l) ?_
 cases q with
 |loop a b c d e f g=>exact .loop rfl rfl c d e f g
def RdR.inRound {F:Fence} (e:RdR G rd F) {id b k:Nat} (c:G.at_ id=some (b,k)):RdR G (some id) (F.inRound b):=by
 cases e with
 |out=>exact .inl c
 |inl _=>exact .inl c
def KDo.yield (hE:E.Ok P) {o:Oper} {l:Sl} {cl:Call} {fo:Operand} {id:Nat} {L L1 L3:ua} {e:Exit} {j:Option Code} (p:o.op= .call cl) (hc:cl.callee= .value fo) (hv:zp E.ng l fo= .yield id)
  (hL:h.get id=some (.loop L)) (hn:cl.args.size=L.params.size) (kA:KC P (some id) L.assign (Ux L.params.toList (cl.args.toList.map (zp E.ng l)) L.fr) h .normal fr1 h1)
  (z:h1.get id=some (.loop L1)) (hs:L1.state= .ready) (kB:KC P (some id) L.body fr1 (h1.set id (some (.loop {L1 with state:= .busy}))) e fr3 h3) (m:Y6 e=some j) (A:h3.get id=some (.loop L3)):
  KDo P E.ng rd o l h (.bool j.isNone) (h3.set id (some (.loop {L3 with state:=if j.isNone then .ready else .done,pending:=j}))):=fun B G w a F n K Q hg U kr T hk=>by
 refine⟨fun g _=>U.fn g, ?_⟩;have hnd:∀d,o.op≠ .defer d:=fun d hd=>by rw [p]at hd; cases hd
 obtain⟨b,k,C,s,hb,hC⟩:=kr.loop hL;obtain⟨callee,args,tys⟩:=cl;simp only at hc hn kA;subst hc;have hx:=T fo (by rw [p]; simp [Op.operands,Call.operands]);rw [hv]at hx;generalize Y:a.eval fo=cv at hx
 cases hx with
 | yield H=>
  rename_i b' k';rw [s]at H; cases H;have hC':=hC
  cases hC with
  | loop c1 c2 c3 c4 c5 c6 c7=>
   have hsz:(args.map a.eval).size=C.params.size:=by rw [Array.size_map,hn,c4]
   have W:(execOp a.eval o).run P w= .ok (.round b C.fn ((C.params.zip (args.map a.eval)).foldl (fun tmps (t,a)=>tmps.setIfInBounds t a) C.tmps) C.assign C.body) w:=by
    simp only [execOp,p,resolve,iB,Y,Deferred.ofValue,iC,iA,invoke,Array.empty_append];exact run_yield hb hsz
   rw [Oper.semAt_eq _ _ _ hnd,W];refine⟨fun hd=>(by rw [U.depth]at hd; cases hd), ?_⟩;refine(roundIn_of_wpIn (R:=fun en w1=>∃G',en= .returned (.bool j.isNone)∧G.le G'∧KRel B G' (h3.set id (some (.loop {L3 with state:=if j.isNone then .ready else .done,pending:=j}))) w1) (U.fn _) ?_).mono ?_
   ·have Z:FrR G (Ux L.params.toList (args.toList.map (zp E.ng l)) L.fr) {tmps:=(C.params.zip (args.map a.eval)).foldl (fun tmps (t,a)=>tmps.setIfInBounds t a) C.tmps,defers:= []}:=by
     have:(C.params.zip (args.map a.eval)).foldl (fun tmps (t,a)=>tmps.setIfInBounds t a) C.tmps=(L.params.toList.zip (args.toList.map a.eval)).foldl (fun tmps (t,a)=>tmps.setIfInBounds t a) C.tmps:=by
      rw [<-Array.foldl_toList,Array.toList_zip,Array.toList_map,c4]
     rw [this];refine BL (by simp) ?_ ⟨c3, .nil⟩;intro i v c h1 h2;rw [iV]at h1 h2
     cases hq:args.toList[i]? with
     |none=>rw [hq]at h1; cases h1
     | some x=>
      rw [hq]at h1 h2;simp only [Option.map_some,iL]at h1 h2;subst h1 h2;refine T x ?_;rw [p]; simp [Op.operands,Call.operands];right; exact Array.mem_toList_iff.1 (iQ hq)
    rw [c5]at kA;refine wpIn_mono (kA B G w _ (F.inRound b) (n-1) hg (U.inRound s) kr Z) ?_;rintro e1 a1 w1 ⟨rfl,G1,f,f1,r1⟩;obtain⟨b1,k1,C1,I,N,r⟩:=r1.loop z;rw [f.at_ s]at I; cases I;have hs1:C1.state= .ready:=by cases r with|loop q _ _ _ _ _ _=>rw [<-q]; exact hs
    refine⟨_,run_beginRound N hs1, ?_⟩;have hp1:C1.pending=L1.pending:=by cases r with|loop _ q _ _ _ _ _=>exact q.symm
    have r2:=r1.loopSet z (f.at_ s) N r .busy L1.pending hp1;rw [c6]at kB;refine wpIn_mono (kB B G1 _ a1 (F.inRound b) (n-1) (hg.le f) ((U.le f).inRound (f.at_ s)) r2 f1) ?_;rintro e2 a2 w2 ⟨rfl,G2,y,f2,r3⟩;obtain⟨b2,k2,C3,M,O,X⟩:=r3.loop A;rw [y.at_ (f.at_ s)]at M; cases M;have r4:=r3.loopSet A (y.at_ (f.at_ s)) O X (if j.isNone then .ready else .done) j
    have fin:∃v w',(Instr.endRound b j).run P w2= .ok v w'∧∃G',Ending.returned v= .returned (.bool j.isNone)∧G.le G'∧KRel B G' (h3.set id (some (.loop {L3 with state:=if j.isNone then .ready else .done,pending:=j}))) w':=
     ⟨_,_,run_endRound j O,G2,rfl,f.trans y,r4⟩
    cases e2 with
    |normal=>simp only [Y6,iL]at m; subst m; exact fin
    |ret=>simp only [Y6,iL]at m; subst m; exact fin
    |exit i=>simp only [Y6,iL]at m; subst m; exact fin
    |goto t=>simp only [Y6,iL]at m; subst m; exact fin
    |panic _=>simp [Y6]at m
    |outgrown=>simp [Y6]at m
   ·rintro en w1 ⟨G',rfl,f,y⟩;exact hk _ G' w1 f (.bool _) y
end
def pQ:Option Code->Option Exit
 |none=>some .normal
 |some .ret=>some .ret
 |some (.exit i)=>some (.exit i)
 |_=>none
section
variable {P:Program} {E:KE} {S:KF_} {B:xi} {G:Gh} {h h1 h2 h3 h':KH} {w:World} {fr fr1 fr3 fr':KFr} {a:Act} {rd:Option Nat}
def fT (Z:E.Ok P) (hS:S.Ok P) {g:Operand} {f:FuncId} {fn:Func} {c:Code} {first cap:List KV} {r:KV} {e:Exit} {lid b k:Nat} {L:ua} {mark:List Deferred} {kmark:List KD}
  (M:zp E.ng fr.l g= .func (.func f) first cap) (hf:S.F f=some fn) (hb:fn.body=some c) (kc:KCall P f (first ++ [.yield lid]++cap) h2 r h3) (W:h3.get lid=some (.loop L)) (hs:L.state≠ .busy) (l:pQ L.pending=some e)
  {F:Fence} {n:Nat} {G2:Gh} {t:World} (N:RdR G2 rd F) (X:Glob P G2) (hG:G.le G2) (kr:KRel B G2 h2 t) (m:FrR G2 fr a) (hm:KDs G2 kmark mark) (H:G2.at_ lid=some (b,k)):
  ∃ (d:Deferred) (w₁':World) (T:FuncId) (args:Array Value) (w₂:World),
   (resolve a.eval (rangeCall g b) 0).run P t= .ok d w₁'∧(∀j,Target.leads P w₁' d.target d.args=some j->F.fn j)∧(invoke d.target d.args).run P w₁'= .ok (.enter T args) w₂∧(F.depth.isSome=true->1<=n) ∧
   CallsIn F (n-1) P T args w₂ (rangePost F n P b (Zy B G e {fr with d:=kmark++fr.d} (h3.set lid (some (.loop {L with state:= .exhausted})))) {a with defers:=mark++a.defers}):=by
 have O:=m.eval X Z.ng g;rw [M]at O;generalize I:a.eval g=cv at O
 cases O with
 | func l1 r1 l2 r2=>
  rename_i v z;refine⟨⟨.fn (.func f) z,v ++ #[.func (.yield b) #[] #[]]⟩,t,f,v ++ #[.func (.yield b) #[] #[]]++z,t, ?_,fun j _=>N.fn j, ?_,fun hd=>(by rw [N.depth]at hd; cases hd), ?_⟩
  ·have:(#[Operand.const (.func (.yield b) #[] #[])]).map a.eval= #[.func (.yield b) #[] #[]]:=by rw [List.map_toArray]; rfl
   simp only [resolve,rangeCall,iB,I,Deferred.ofValue,iC,this]
  ·exact qI hS hf hb _ _
  ·have hargs:KRs G2 (first ++ [.yield lid]++cap) (v ++ #[.func (.yield b) #[] #[]]++z):=KRs.append (KRs.append ⟨l1,r1⟩ ⟨rfl,fun i u x h1 h2=>by
    match i with
    |0=>simp at h1 h2; subst h1 h2; exact .yield H
    |i+1=>simp at h1⟩) ⟨l2,r2⟩
   refine(kc.inF N (n-1) X kr hargs).mono ?_;rintro en w3 ⟨cv',G3,rfl,o,g2,U⟩;obtain⟨b',k',C,p,s,A⟩:=U.loop W;rw [o.at_ H]at p; cases p;have hsC:C.state=L.state:=by cases A with|loop q _ _ _ _ _ _=>exact q.symm
   have hpC:C.pending=L.pending:=by cases A with|loop _ q _ _ _ _ _=>exact q.symm
   have r4:=U.loopSet W (o.at_ H) s A .exhausted L.pending hpC
   have K:KDs G3 (kmark++fr.d) (mark++a.defers):=by
    have:∀ {x y},KDs G2 x y->KDs G3 (x++fr.d) (y++a.defers):=fun {x y} Q=>by
     induction Q with
     |nil=>exact m.ds.le o
     |cons q _ ih=>exact .cons (q.le o) ih
    exact this hm
   have post:Zy B G e {fr with d:=kmark++fr.d} (h3.set lid (some (.loop {L with state:= .exhausted}))) e {a with defers:=mark++a.defers} (w3.putObj b (.loop {C with state:= .exhausted})):=
    ⟨rfl,G3,hG.trans o,⟨m.sl.le o,K⟩,r4⟩
   refine⟨C.pending,_,run_endLoop s (by rw [hsC]; exact hs), ?_⟩;rw [hpC];rw [hpC]at post
   cases Y:L.pending with
   |none=>rw [Y]at l post; simp only [pQ,iL]at l; subst l; exact post
   | some c=>
    rw [Y]at l post
    cases c with
    |ret=>simp only [pQ,iL]at l; subst l; exact wpIn_ret post
    |exit i=>simp only [pQ,iL]at l; subst l; exact wpIn_exit post
    |_=>simp [pQ]at l
def QN (fr:KFr) (ps:Array Tmp) (assign body:Code) (did:Nat):ua:={state:= .ready,pending:=none,n:=fr.n,l:=fr.l,params:=ps,assign,body,defers:=did}
def oR (x:E.Ok P) (z:S.Ok P) {g:Operand} {ps:Array Tmp} {assign body:Code} {f:FuncId} {fn:Func} {c:Code} {first cap:List KV} {r:KV} {e:Exit} {L:ua} (hroom:h.next+2<65000)
  (j:zp E.ng fr.l g= .func (.func f) first cap) (H:S.F f=some fn) (A:fn.body=some c)
  (kc:KCall P f (first ++ [.yield (h.next+1)]++cap) ((h.push (.defd (some []))).push (.loop (QN fr ps assign body h.next))) r h3) (y:h3.get (h.next+1)=some (.loop L)) (M:L.state≠ .busy) (C:pQ L.pending=some e):
  KC P none (.rangeFunc g ps assign body) fr h e {fr with d:= .collected h.next::fr.d} (h3.set (h.next+1) (some (.loop {L with state:= .exhausted}))):=fun B G w a F n I K kr b=>by
 refine wpIn_rangeFunc fun fn' _=> ?_;have i:=kr.alloc (o:= .defd (some [])) (ob:= .deferred (some [])) (room:=0) (by omega) (.defd .nil);have m:=Gh.new_le G kr.fresh (w.heap.size,0) 0;have l:=Gh.new_at G h.next (w.heap.size,0) 0
 have O:=i.alloc (o:= .loop (QN fr ps assign body h.next)) (ob:= .loop {state:= .ready,pending:=none,fn:=fn',tmps:=a.tmps,params:=ps,assign,body,defers:=w.heap.size}) (room:=0) (by show h.next+1+1<_; omega)
  (.loop rfl rfl ((b.sl.le m).le (Gh.new_le _ i.fresh _ _)) rfl rfl rfl ((Gh.new_le _ i.fresh _ _).at_ l))
 have p:=Gh.new_le _ i.fresh ((w.alloc (.deferred (some []))).heap.size,0) 0;have t:=Gh.new_at (G.new h.next (w.heap.size,0) 0) (h.push (.defd (some []))).next ((w.alloc (.deferred (some []))).heap.size,0) 0
 have k:=m.trans p;cases K;obtain⟨d,w₁',v,args,w₂,q,Q,T,U,s⟩:=fT (F:=Fence.wide) (n:=n) (mark:= [{target:= .collected w.heap.size,args:= #[]}]) (kmark:= [.collected h.next]) x z j H A kc y M C .out (I.le k) k O (b.le k) (.cons (.collected (p.at_ l)) .nil) t;refine⟨w.heap.size+1,_,_,d,w₁',v,args,w₂,run_enterLoop_outer fn' a.tmps ps assign body, ?_⟩;have N:(w.alloc (.deferred (some []))).heap.size=w.heap.size+1:=by show(w.heap.push _).size=_; simp
 rw [N]at q s;exact⟨q,Q,T,U,s⟩
def KQ {b:Frame} {k:List Item} {cs:List Frame} {c:Code}:step P (lone (b.atR a (.code (.scope c)::k)) cs w)= .next (lone (b.atR a (.code c:: .inScope c::k)) cs w):=
 step_lone_go (by simp [stepG,stepG.exec,Frame.atR])
def UY {b:Frame} {k:List Item} {cs:List Frame} {c:Code}:step P (lone (b.atR a (.inScope c::k)) cs w)= .next (lone (b.atR a k) cs w):=
 step_lone_go (by simp [stepG,stepG.exec,Frame.atR])
def pW {c:Code} {e:Exit} (k1:KC P rd c fr h e fr' h') (s:∀l,e≠ .goto l):KC P rd (.scope c) fr h e fr' h':=fun B G w a F n t v kr i=>by
 intro b k r m g hroom;obtain⟨o,p,w1,⟨rfl,q⟩,f⟩:=k1 B G w a F n t v kr i b (.inScope c::k) r m g hroom;refine⟨o,p,w1,⟨rfl,q⟩, .of_steps (.one (fenced_calm g hroom rfl) KQ) ?_⟩
 cases o with
 |normal=>exact StepsIn.trans f (.one (fenced_calm g hroom rfl) UY)
 |exit id=>exact⟨fun x j=>f.1 x (by simpa [exitTo] using j),fun h1 j=>f.2 h1 (by simpa [exitTo] using j)⟩
 |goto l=>exact absurd rfl (s l)
 |ret=>exact f
 |panic ch=>exact f
 |outgrown=>exact f
end
def Z3 (T:TypeId->TI):Op->Bool
 | .convert _ d _=>match(T d).d with| .slice .. => false|_=>true
 | .move _| .assign _| .pick .. | .build .. | .load .. | .nilCheck _| .binOp .. | .unOp .. | .makeInterface .. | .makeFunc .. | .slice .. | .fieldAddr .. | .field .. | .indexAddr .. | .index .. | .lookup .. | .typeAssert .. | .extract .. | .entry _=>true
 | .call ⟨.builtin .len,_,_⟩=>true
 | .call ⟨.builtin .min,_,_⟩=>true
 | .call ⟨.builtin .max,_,_⟩=>true
 |_=>false
def Yc {E:KE} {l:Sl} {h h':KH} {op:Op} {v:KV} (b:Z3 E.T op=true) (e:yl E l h op=some (v,h')):h'=h:=by
 have c:∀ {x:Option KV},(x.map fun v=>(v,h))=some (v,h')->h'=h:=fun e=>(Yw e).2
 have hconv:∀ {s d:TypeId} {x:KV},(match(E.T d).d with| .slice .. => false|_=>true)=true->kJ h E.T s d x=some (v,h')->h'=h:=by
  intro s d x b e;unfold kJ at e;split at e
  ·split at e
   ·split at e
    ·simp only [iL,iW]at e; exact e.2.symm
    ·cases e
   ·split at e
    ·simp only [iL,iW]at e; exact e.2.symm
    ·rename_i hd; rw [hd]at b; cases b
    ·cases e
   ·split at e
    ·split at e
     ·simp only [iL,iW]at e; exact e.2.symm
     ·cases e
    ·cases e
   ·split at e
    ·split at e
     ·simp only [iL,iW]at e; exact e.2.symm
     ·cases e
    ·cases e
   ·split at e
    ·split at e
     ·split at e
      ·split at e
       ·simp only [iL,iW]at e; exact e.2.symm
       ·cases e
      ·cases e
     ·cases e
    ·cases e
   ·cases e
  ·cases e
 unfold Z3 at b;split at b
 ·simp only [yl]at e; exact hconv b e
 all_goals (first|(cases b; done)|skip)
 all_goals (simp only [yl]at e)
 all_goals (try (exact c e))
 all_goals (try (simp only [iL,iW]at e; exact e.2.symm))
 all_goals (try (split at e<;>first|(exact c e)|(simp only [iL,iW]at e; exact e.2.symm)|(cases e; done)|(split at e<;>first|(simp only [iL,iW]at e; exact e.2.symm)|(exact c e)|(cases e; done))))
 all_goals (unfold bB at e; split at e)
 all_goals (first|(cases e; done)|(exact c e)|skip)
 all_goals (first|(split at e<;>exact c e)|(rename_i f _ _; cases f; done)|(rename_i f _; cases f; done)|skip)
mutual
def uK:KV->KV->Bool
  | .bool a, .bool b=>(bif a then b else !b)
  | .int k a, .int e b=>decide (k=e)&&decide (a=b)
  | .str n a, .str m b=>Nat.beq n m&&Nat.beq a b
  | .ptr i o, .ptr j p=>Nat.beq i j&&Nat.beq o p
  | .nilp, .nilp=>true
  | .sl i o l c s, .sl j p m d t=>Nat.beq i j&&Nat.beq o p&&Nat.beq l m&&decide (c=d)&&Nat.beq s t
  | .slz, .slz=>true
  | .nilsl, .nilsl=>true
  | .func (.func f) a b, .func (.func g) c d=>Nat.beq f g&&Y9 a c&&Y9 b d
  | .nilfunc, .nilfunc=>true
  | .yield i, .yield j=>Nat.beq i j
  | .agg a, .agg b=>Y9 a b
  | .tuple a, .tuple b=>Y9 a b
  | .map i, .map j=>Nat.beq i j
  | .nilmap, .nilmap=>true
  | .iface t a, .iface u b=>Nat.beq t u&&uK a b
  | .niliface, .niliface=>true
  |_,_=>false
  termination_by structural x=>x
def Y9:List KV->List KV->Bool
  | [],[]=>true
  |a::l,b::r=>uK a b&&Y9 l r
  |_,_=>false
  termination_by structural x=>x
end
mutual
def br :∀(a b:KV),uK a b=true->a=b
  | .junk,b,h=>by simp [uK]at h
  | .bool a,b,h=>by cases b with|bool c=>(cases a<;>cases c<;>simp_all [uK])|_=>simp [uK]at h
  | .int k a,b,h=>by cases b with|int e c=>(simp only [uK,iF,iJ]at h; rw [h.1,h.2])|_=>simp [uK]at h
  | .str n a,b,h=>by cases b with|str m c=>(simp only [uK,iF,Nat.beq_eq]at h; rw [h.1,h.2])|_=>simp [uK]at h
  | .ptr i o,b,h=>by cases b with|ptr j p=>(simp only [uK,iF,Nat.beq_eq]at h; rw [h.1,h.2])|_=>simp [uK]at h
  | .nilp,b,h=>by cases b with|nilp=>rfl|_=>simp [uK]at h
  | .sl i o l c s,b,h=>by cases b with|sl j p m d t=>(simp only [uK,iF,Nat.beq_eq,iJ]at h; obtain⟨⟨⟨⟨rfl,rfl⟩,rfl⟩,rfl⟩,rfl⟩:=h; rfl)|_=>simp [uK]at h
  | .slz,b,h=>by cases b with|slz=>rfl|_=>simp [uK]at h
  | .nilsl,b,h=>by cases b with|nilsl=>rfl|_=>simp [uK]at h
  | .func fn a b,y,h=>by
    cases y with
    | func gn c d=>
      cases fn with
      | func f=>
        cases gn with
        | func g=>
          simp only [uK,iF,Nat.beq_eq]at h;rw [h.1.1,qM a c h.1.2,qM b d h.2]
        |_=>simp [uK]at h
      |_=>simp [uK]at h
    |_=>cases fn<;>simp [uK]at h
  | .nilfunc,b,h=>by cases b with|nilfunc=>rfl|_=>simp [uK]at h
  | .yield i,b,h=>by cases b with|yield j=>(simp only [uK,Nat.beq_eq]at h; rw [h])|_=>simp [uK]at h
  | .agg a,b,h=>by cases b with|agg c=>(simp only [uK]at h; rw [qM a c h])|_=>simp [uK]at h
  | .tuple a,b,h=>by cases b with|tuple c=>(simp only [uK]at h; rw [qM a c h])|_=>simp [uK]at h
  | .map i,b,h=>by cases b with|map j=>(simp only [uK,Nat.beq_eq]at h; rw [h])|_=>simp [uK]at h
  | .nilmap,b,h=>by cases b with|nilmap=>rfl|_=>simp [uK]at h
  | .iface t a,b,h=>by cases b with|iface u c=>(simp only [uK,iF,Nat.beq_eq]at h; rw [h.1,br a c h.2])|_=>simp [uK]at h
  | .niliface,b,h=>by cases b with|niliface=>rfl|_=>simp [uK]at h
def qM:∀(a b:List KV),Y9 a b=true->a=b
  | [],[],_=>rfl
  | a::l,b::r,h=>by
    simp only [Y9,iF]at h;rw [br a b h.1,qM l r h.2]
  | [],_::_,h=>by simp [Y9]at h
  |_::_,[],h=>by simp [Y9]at h
end
def VG:Op->Bool
 | .alloc _| .box .. | .buildSlice .. | .makeSlice .. => true
 |_=>false
def Gu {E:KE} {l:Sl} {h h':KH} {op:Op} {v:KV} (j:VG op=true) (e:yl E l h op=some (v,h')):∃tm cs,kal E l op=some (tm,cs)∧wY h=true∧v=tm.at h.next∧h'=h.push (.cells false cs):=by
 cases op<;>first|(cases j; done)|skip
 ·rename_i i;simp only [yl]at e;split at e
  ·rename_i b;cases e;exact⟨.ptr,_,by simp only [kal]; rw [iI ⟨b.1,b.2.1⟩],b.2.2,rfl,rfl⟩
  ·cases e
 ·rename_i t x;simp only [yl]at e;split at e
  ·rename_i b;cases e;exact⟨.ptr,_,by simp only [kal]; rw [iI b.1],b.2,rfl,rfl⟩
  ·cases e
 ·rename_i t len ps;simp only [yl,kf]at e;split at e
  ·rename_i i g by_ hd;split at e
   ·rename_i b;split at e
    ·rename_i cs k;cases e;exact⟨.sl len len g,cs,by simp only [kal,hd]; rw [iI ⟨b.1,b.2.1,b.2.2.1⟩,k],b.2.2.2,rfl,rfl⟩
    ·cases e
   ·cases e
  ·cases e
 ·rename_i t n c;simp only [yl,Ur]at e;split at e
  ·rename_i i g bytes o li p ci hd m f;split at e
   ·rename_i b;cases e;exact⟨.sl li.toNat ci.toNat g,_,by simp only [kal,hd,m,f]; rw [iI ⟨b.1,b.2.1,b.2.2.1,b.2.2.2.1,b.2.2.2.2.1,b.2.2.2.2.2.1⟩],b.2.2.2.2.2.2,rfl,rfl⟩
   ·cases e
  ·cases e
end Go.K
end
