/- The layer of closed runs: a part. No condition beyond each statement's own. -/
import Derived.Test.YtkabooclnoiclaaGreatDoorK08
set_option linter.unusedVariables false
set_option linter.unusedSimpArgs false
set_option linter.unnecessarySimpa false
section
namespace Go.K
open Go.Abs
section
variable {P:Program} {E:KE} {rd:Option Nat} {ops:Array Oper} {n:Nat} {order Es L:List Nat} {B:List (List Nat)}
theorem Vq {K:KFr→KH→Prop} {j:Nat} (hE:j∉Es) (hL:j∈L):∀(rest seen:List Nat) (F:KFr) (st:KH),kD2 P E rd ops Es L B rest seen F st K→j∈rest→(∀i∈rest,i≠j→j∉B.getD i []→i<ops.size) →
  (∀(pre post:List Nat),rest=pre++j::post→∀i∈pre,∀d,zk ops i=some d→d∉zN ops j)→F.n=n→(∀i∈rest,∀d,zk ops i=some d→d<n) →
  ∃o tm cs,ops[j]? =some o∧kal E F.l o.op=some (tm,cs)
 | [],seen,F,st,_,hj,_,_,_,_=>by cases hj
 | i ::rest,seen,F,st,had,hj,hlt,hpre,hn,hdn=>by
  by_cases hij:i=j
  ·subst hij
   simp only [kD2]at had
   rw [if_neg (by simpa using hE),if_pos (by simpa using hL)]at had
   obtain⟨o,tm,cs,ho,hk,_⟩:=had
   exact⟨o,tm,cs,ho,hk⟩
  ·have hj':j∈rest:=by
    rcases List.mem_cons.1 hj with h|h
    ·exact absurd h.symm hij
    ·exact h
   have hnr:∀d,zk ops i=some d→d∉zN ops j:=by
    obtain⟨s,t,e⟩:=List.append_of_mem hj'
    exact hpre (i::s) t (by rw [e]; rfl) i (by simp)
   have hpre':∀(pre post:List Nat),rest=pre++j::post→∀i∈pre,∀d,zk ops i=some d→d∉zN ops j:=fun pre post e i' hi'=>hpre (i::pre) post (by rw [e]; rfl) i' (List.mem_cons_of_mem _ hi')
   have back:∀(dst:Option Tmp) (v:KV),dst=zk ops i→(∃o tm cs,ops[j]? =some o∧kal E (F.put dst v).l o.op=some (tm,cs))→∃o tm cs,ops[j]? =some o∧kal E F.l o.op=some (tm,cs):=by
    intro dst v hd ⟨o,tm,cs,ho,hk⟩
    refine⟨o,tm,cs,ho, ?_⟩
    rw [←hk]
    refine dG o.op (wF fun t ht=> ?_)
    cases hdd:dst with
    |none=>rfl
    | some d=>
     rw [xE (by rw [hn]; exact hdn i (by simp) d (by rw [←hd,hdd])),if_neg]
     rintro rfl
     exact hnr t (by rw [←hd,hdd]) (by unfold zN; rw [ho]; simp [ht])
   have again:∀(dst:Option Tmp) (v:KV) (st':KH),dst=zk ops i→kD2 P E rd ops Es L B rest (i::seen) (F.put dst v) st' K→∃o tm cs,ops[j]? =some o∧kal E F.l o.op=some (tm,cs):=fun dst v st' hd k=>
    back dst v hd (Vq hE hL rest (i::seen) (F.put dst v) st' k hj' (fun x hx=>hlt x (List.mem_cons_of_mem _ hx)) hpre' (by rw [qt]; exact hn) (fun x hx=>hdn x (List.mem_cons_of_mem _ hx)))
   simp only [kD2]at had
   split at had
   ·unfold Bu at had
    cases ho:ops[i]? with
    |none=>rw [ho]at had; exact had.elim
    | some o=>
     have hd:o.dst=zk ops i:=by simp [zk,ho]
     rw [ho]at had
     simp only at had
     split at had
     ·obtain⟨v,h1,_,_,k⟩:=had; exact again _ v h1 hd k
     ·obtain⟨_,k⟩:=had; exact again _ _ _ hd k
     ·exact had.elim
   ·split at had
    ·obtain⟨o,tm,cs,ho,_,_,_,k⟩:=had
     exact again _ _ _ (by simp [zk,ho]) k
    ·obtain⟨v,_,k⟩:=had
     exact again _ v st rfl k
def jA (ops:Array Oper) (L:List Nat) (listed:Array Bool) (seen:List Nat) (F:KFr):KFr:=
 {F with l:=F.l.filter fun x=>(seen.all fun j=>listed.getD j false|| !(zk ops j==some x))&&(L.all fun j=> !(listed.getD j false)||seen.contains j|| !(zk ops j==some x))}
theorem ZY {listed:Array Bool} {seen:List Nat} {F:KFr} {t:Nat} (h:∀j∈seen,¬Dn listed j→zk ops j≠some t) (h2:∀j∈L,Dn listed j→j∉seen→zk ops j≠some t):yj (jA ops L listed seen F).l t=yj F.l t:=by
 simp only [jA,xU]
 rw [if_pos]
 rw [Bool.and_eq_true,List.all_eq_true,List.all_eq_true]
 refine⟨fun j hj=> ?_,fun j hj=> ?_⟩
 ·by_cases hd:Dn listed j
  ·simp only [Dn]at hd; simp [hd]
  ·have:=h j hj hd; simp [this]
 ·by_cases hd:Dn listed j
  ·by_cases hs:j∈seen
   ·simp [hs]
   ·have:=h2 j hj hd hs; simp [this]
  ·simp only [Dn,Bool.not_eq_true]at hd; simp [hd]
theorem pw.mask {Fn:Fence} {w0:zM} {G0:Gh} {K:KFr→KH→Prop} {ab:Nat→Nat} {listed:Array Bool} {rest seen:List Nat} {F:KFr} {st:KH} {G:Gh} {w:World} {a:Act}
  (h:pw P E rd Fn ops n order Es L B w0 G0 K ab listed rest seen F st G w a):FrR G (jA ops L listed seen F) a:=by
 refine⟨⟨h.tmps,fun t=> ?_⟩,h.defers⟩
 by_cases ht:∀j∈seen,¬Dn listed j→zk ops j≠some t
 ·by_cases ht2:∀j∈L,Dn listed j→j∉seen→zk ops j≠some t
  ·rw [ZY ht ht2]; exact h.slot t ht ht2
  ·have:yj (jA ops L listed seen F).l t= .junk:=by
    simp only [jA,xU]
    rw [if_neg]
    rw [Bool.and_eq_true,List.all_eq_true,List.all_eq_true]
    intro hall
    apply ht2
    intro j hj hd hs he
    have:=hall.2 j hj
    simp only [Dn]at hd
    simp [hd,hs,he]at this
   rw [this]; exact .junk _
 ·have:yj (jA ops L listed seen F).l t= .junk:=by
   simp only [jA,xU]
   rw [if_neg]
   rw [Bool.and_eq_true,List.all_eq_true,List.all_eq_true]
   intro hall
   apply ht
   intro j hj hd he
   have:=hall.1 j hj
   simp only [Dn,Bool.not_eq_true]at hd
   simp [hd,he]at this
  rw [this]; exact .junk _
open Classical in
theorem ce (hE:E.Ok P) (c:uU ops n order Es L B) (hLs:∀i∈L,i<ops.size) {Fn:Fence} {nn:Nat} {w0:zM} {G0:Gh} {K:KFr→KH→Prop} {Q:Exit→Act→World→Prop}
  (hK:∀fr' st' G' a' w',K fr' st'→KRel w0 G' st' w'→FrR G' fr' a'→G0.le G'→Q .normal a' w'):
  ∀ (fuel:Nat) (ab:Nat→Nat) (listed:Array Bool) (rest seen:List Nat) (F:KFr) (st:KH) (G:Gh) (w:World) (a:Act),
   pw P E rd Fn ops n order Es L B w0 G0 K ab listed rest seen F st G w a→(∀e r,rest=e::r→e∈Es∨(e∈L∧¬Dn listed e))→((List.range ops.size).filter fun i=> !(listed.getD i false)).length≤fuel→wpAnyIn Fn nn P .any ops Q fuel listed a w:=by
 have ends : ∀ (ab : Nat → Nat) (listed : Array Bool) (rest seen : List Nat) (F : KFr) (st : KH) (G : Gh) (w : World) (a : Act), pw P E rd Fn ops n order Es L B w0 G0 K ab listed rest seen F st G w a → (∀ e r, rest = e :: r → e ∈ Es ∨ (e ∈ L ∧ ¬ Dn listed e)) → (∀ i, i < ops.size → Dn listed i) → Q .normal a w := by
  intro ab listed rest seen F st G w a h hhd hall
  have hrest:rest= []:=by
   cases hr:rest with
   |nil=>rfl
   | cons e r=>
    exfalso
    have hs:order=seen.reverse++e::r:=by rw [←hr]; exact h.split
    have hem:e∈order:=by rw [hs]; simp
    have hde:=hall e (c.lt e hem)
    rcases hhd e r hr with he|⟨_,he⟩
    ·rcases h.doneSeen e hde with h1|h1
     ·exact c.not_seen hs (by simp) h1
     ·exact(c.late e h1 (hLs e h1)).1 he
    ·exact he hde
  have had:=h.ad
  rw [hrest]at had
  simp only [kD2]at had
  have hsp:=h.split
  rw [hrest,List.append_nil]at hsp
  refine hK F st G a w had h.rel ⟨⟨h.tmps,fun t=>h.slot t ?_ ?_⟩,h.defers⟩ h.ext
  ·intro j hj hd
   exact absurd (hall j (c.lt j (by rw [hsp]; simp [hj]))) hd
  ·intro j hj _ hn
   have:j∈order:=c.all j (hLs j hj)
   rw [hsp]at this
   exact absurd (List.mem_reverse.1 this) hn
 have noReady:∀(listed:Array Bool),listed.size=ops.size→Region.ready .any ops listed= []→∀i,i<ops.size→Dn listed i:=by
  intro listed hsize hr
  have key:∀p (hp:p<order.length),Dn listed order[p]:=by
   intro p
   induction p using Nat.strongRecOn with
   | _ p ih=>
    intro hp
    have hlt:=c.lt _ (List.getElem_mem hp)
    by_cases hd:Dn listed order[p]
    ·exact hd
    ·exfalso
     have:order[p]∈Region.ready .any ops listed:=by
      rw [mem_ready]
      refine⟨?_,ops[order[p]],by simp [hlt], ?_⟩
      ·have hsz:order[p]<listed.size:=by rw [hsize]; exact hlt
       simp only [Dn]at hd
       simp [Array.getD,hsz]at hd ⊢
       exact hd
      ·intro e he hb
       have hk:e.on∈dp ops order[p]:=by
        unfold dp
        rw [show ops[order[p]]? =some ops[order[p]]by simp [hlt]]
        exact List.mem_map.2 ⟨e,List.mem_filter.2 ⟨by simpa using he,hb⟩,rfl⟩
       obtain⟨q,hq,hql,hqe⟩:=yI (c.topo p hp _ hk)
       rw [←hqe]; exact ih q hq hql
     rw [hr]at this; cases this
  intro i hi
  obtain⟨p,hp,he⟩:=List.getElem_of_mem (c.all i hi)
  rw [←he]; exact key p hp
 intro fuel
 induction fuel with
 | zero=>
  intro ab listed rest seen F st G w a h hhd hf
  have hall:∀i,i<ops.size→Dn listed i:=by
   intro i hi
   have:((List.range ops.size).filter fun i=> !(listed.getD i false))= []:=List.eq_nil_of_length_eq_zero (Nat.le_zero.1 hf)
   rw [List.filter_eq_nil_iff]at this
   have:=this i (by simpa using hi)
   simpa [Dn] using this
  refine⟨?_,ends ab listed rest seen F st G w a h hhd hall⟩
  cases hr:Region.ready .any ops listed with
  |nil=>rfl
  | cons i r=>
   exfalso
   have hm:i∈Region.ready .any ops listed:=by rw [hr]; simp
   rw [mem_ready]at hm
   obtain⟨h1,o,ho,_⟩:=hm
   have hi:i<ops.size:=(Array.getElem?_eq_some_iff.1 ho).1
   have h2:=hall i hi
   have hsz:i<listed.size:=by rw [h.size]; exact hi
   simp only [Dn]at h2
   simp [Array.getD,hsz]at h1 h2
   rw [h1]at h2; cases h2
 | succ fuel ih=>
  intro ab listed rest seen F st G w a h hhd hf
  refine⟨fun hr=>ends ab listed rest seen F st G w a h hhd (noReady listed h.size hr), ?_⟩
  intro i hir
  rw [mem_ready]at hir
  obtain⟨hun,o,ho,hpre⟩:=hir
  have hi:i<ops.size:=(Array.getElem?_eq_some_iff.1 ho).1
  have hsz:i<listed.size:=by rw [h.size]; exact hi
  have hnd:¬Dn listed i:=by
   simp only [Dn]; simp [Array.getD,hsz]at hun ⊢; exact hun
  have hdp:∀k∈dp ops i,Dn listed k:=by
   intro k hk
   unfold dp at hk
   rw [ho]at hk
   obtain⟨e,he,rfl⟩:=List.mem_map.1 hk
   obtain⟨he1,he2⟩:=List.mem_filter.1 he
   exact hpre e (by simpa using he1) he2
  have hB:=c.ready h.closed hi hdp
  have hfuel:((List.range ops.size).filter fun k=> !((listed.setIfInBounds i true).getD k false)).length≤fuel:=by
   have:=Abs.filter_lt (p:=fun k=> !(listed.getD k false)) (q:=fun k=> !((listed.setIfInBounds i true).getD k false)) (List.range ops.size) (by
    intro k _ hk
    by_cases hki:i=k
    ·subst hki; simp [hsz]at hk
    ·rwa [getD_set_ne false hki]at hk) ⟨i,by simpa using hi,by simpa [Dn] using hnd,by simp [hsz]⟩
   omega
  have hsize':(listed.setIfInBounds i true).size=ops.size:=by simp [h.size]
  have hclosed':uT ops (listed.setIfInBounds i true):=by
   intro j k hj hk
   rw [yb hsz]at hj ⊢
   rcases hj with rfl|hj
   ·exact .inr (hdp k hk)
   ·exact .inr (h.closed j k hj hk)
  have him:i∈order:=c.all i hi
  have headSeen:∀e r,rest=e::r→i∉seen→i∉L→i=e:=by
   intro e r hr his hiL
   have hsplit:order=seen.reverse++e::r:=by rw [←hr]; exact h.split
   have hirest:i∈e::r:=by
    have:=him
    rw [hsplit]at this
    rcases List.mem_append.1 this with h1|h1
    ·exact absurd (List.mem_reverse.1 h1) his
    ·exact h1
   rcases List.mem_cons.1 hirest with h1|h1
   ·exact h1
   ·exfalso
    have hpos:seen.length<order.length:=by rw [hsplit]; simp
    have hat:order[seen.length]=e:=by
     subst hsplit
     rw [List.getElem_append_right (by simp)]
     simp
    have hEL:e∈Es∨e∈L:=(hhd e r hr).imp id (·.1)
    have hb:=c.waits seen.length hpos (by rw [hat]; exact hEL) i (by
     rw [hsplit,List.drop_append]
     simp [h1]) hiL
    rw [hat]at hb
    have hde:=hB e hb
    rcases hhd e r hr with he|⟨_,he⟩
    ·rcases h.doneSeen e hde with h2|h2
     ·exact c.not_seen hsplit (by simp) h2
     ·exact(c.late e h2 (hLs e h2)).1 he
    ·exact he hde
  have hreads:∀t∈zN ops i,(∀j∈seen,¬Dn listed j→zk ops j≠some t)∧(∀j∈L,Dn listed j→j∉seen→zk ops j≠some t):=by
   intro t ht
   constructor
   ·intro j hj hd hdj
    have hjm:j<ops.size:=c.lt j (by rw [h.split]; simp [hj])
    rcases c.reads i hi t ht j hjm hdj with h1|h1
    ·exact hd (hB j h1)
    ·exact hd (h.effDone j hj (.inl h1.1))
   ·intro j hj hd hjn hdj
    rcases c.reads i hi t ht j (hLs j hj) hdj with h1|h1
    ·by_cases hiL:i∈L
     ·exact(c.late i hiL hi).2.2 t ht j hj hdj
     ·by_cases his:i∈seen
      ·exact hjn (c.seen h.split his j h1)
      ·cases hr:rest with
       | nil=>
        have:=h.split
        rw [hr,List.append_nil]at this
        rw [this]at him
        exact his (List.mem_reverse.1 him)
       | cons e r=>
        have hie:=headSeen e r hr his hiL
        subst hie
        have hsplit:order=(i::seen).reverse++r:=by have:=h.split; rw [hr]at this; rw [this]; simp
        have:=c.seen hsplit (j:=i) (by simp) j h1
        rcases List.mem_cons.1 this with h2|h2
        ·subst h2; exact hnd hd
        ·exact hjn h2
    ·exact(c.late j hj (hLs j hj)).1 h1.1
  have hmr:∀t∈zN ops i,yj F.l t=yj (jA ops L listed seen F).l t:=fun t ht=>(ZY (hreads t ht).1 (hreads t ht).2).symm
  have hmask:=h.mask
  have hmo:∀x∈o.op.operands,KR G (zf E.ng F.l x) (a.eval x):=fun x hx=>by
   rw [wF (F':=jA ops L listed seen F) (fun t ht=>hmr t (by unfold zN; rw [ho]; simp [ht])) x hx]
   exact hmask.eval h.gl hE.ng x
  have hwant:∀t,yE ops F.l o=some t→Region.wanted o (yielded ops a.tmps)=t:=by
   intro t ht
   rw [kT ho hmr]at ht
   exact uq hmask ht
  have hdst:zk ops i=o.dst:=by simp [zk,ho]
  have hsame:∀ {cv:Value} {d:Nat},zk ops i≠some d→(a.put o.dst cv).tmps.getD d undef=a.tmps.getD d undef:=by
   intro cv d hne
   cases hd:o.dst with
   |none=>rfl
   | some e=>
    have hen:e<a.tmps.size:=by rw [h.tmps,h.n]; exact c.dlt i hi e (by rw [hdst,hd])
    rw [uY hen,if_neg]
    rintro rfl
    exact hne (by rw [hdst,hd])
  have hput:∀ {cv:Value},(a.put o.dst cv).tmps.size=F.n:=by
   intro cv
   simp only [Act.put]; cases o.dst<;>simp [h.tmps]
  have hdef:∀ {cv:Value} {G':Gh},G.le G'→KDs G' F.d (a.put o.dst cv).defers:=by
   intro cv G' hx
   simp only [Act.put]; cases o.dst<;>exact h.defers.le hx
  let R:Nat→Prop:=fun b=>∃j,j∈L∧Dn listed j∧j∉seen∧b=ab j
  have hR:∀b,R b→b<w.heap.size∧Yt st G b:=by
   rintro b ⟨j,h1,h2,h3,rfl⟩
   obtain⟨_,_,_,_,_,_,_,_,q,_,q2,_⟩:=h.ahead j h1 h2 h3
   exact⟨heap_lt q,q2⟩
  unfold wpOpIn
  rw [ho]
  simp only
  by_cases his:i∈seen
  ·
   have hstill:=h.inv i his hnd
   have hiE:i∉Es:=fun he=>hnd (h.effDone i his (.inl he))
   have hiL:i∉L:=fun he=>hnd (h.effDone i his (.inr he))
   have cont:∀(v:KV) (cv:Value) (G':Gh) (w':World),(∀d,o.dst=some d→yj F.l d=v)→KR G' v cv→KRel w0 G' st w'→G.le G'→(∀b,R b→w'.heap[b]? =w.heap[b]? ∧Yt st G' b)→wpAnyIn Fn nn P .any ops Q fuel (listed.setIfInBounds i true) (a.put o.dst cv) w':=by
    intro v cv G' w' hv hvr hrel hx hkeep
    refine ih ab _ rest seen F st G' w' _ ?_ (fun e r he=>(hhd e r he).imp id fun q=>⟨q.1,fun hd=>by
     rw [yb hsz]at hd
     rcases hd with rfl|hd
     ·exact hiL q.1
     ·exact q.2 hd⟩) hfuel
    refine {size:=hsize',split:=h.split,doneSeen:= ?_,effDone:= ?_,closed:=hclosed',inv:= ?_,ad:=h.ad,rel:=hrel,defers:=hdef hx,tmps:=hput,ahead:= ?_,inj:= ?_,slot:= ?_,n:=h.n,ext:=h.ext.trans hx,gl:=h.gl.le hx,rd:=h.rd.le hx}
    ·intro j hj
     rw [yb hsz]at hj
     rcases hj with rfl|hj
     ·exact .inl his
     ·exact h.doneSeen j hj
    ·intro j hj he; rw [yb hsz]; exact .inr (h.effDone j hj he)
    ·intro j hj hd; rw [yb hsz]at hd; exact h.inv j hj fun hd'=>hd (.inr hd')
    ·intro j hj hd hjn
     have hji:j≠i:=fun q=>hiL (q▸hj)
     have hd:Dn listed j:=by
      rw [yb hsz]at hd
      exact hd.resolve_left hji
     have:=hkeep (ab j) ⟨j,hj,hd,hjn,rfl⟩
     exact(h.ahead j hj hd hjn).turn (fun _ _=>rfl) hx this.1 this.2 (fun d hdd=>hsame (c.uniq j i (hLs j hj) hi hji d hdd))
    ·intro x hx y hy hxd hyd hxn hyn
     have e1:∀ {z},z∈L→Dn (listed.setIfInBounds i true) z→Dn listed z:=fun {z} hz hd=>by
      rw [yb hsz]at hd
      exact hd.resolve_left fun q=>hiL (q▸hz)
     exact h.inj x hx y hy (e1 hx hxd) (e1 hy hyd) hxn hyn
    ·intro t ht1 ht2
     have old:zk ops i≠some t→KR G' (yj F.l t) (a.tmps.getD t undef):=fun hne=>(h.slot t (fun j hj hdn he=>by
      by_cases hji:j=i
      ·subst hji; exact hne he
      ·exact ht1 j hj (by rw [yb hsz]; rintro(h1|h1); exact hji h1; exact hdn h1) he) (fun j hj hjd hjn=>ht2 j hj (by rw [yb hsz]; exact .inr hjd) hjn)).le hx
     cases hd:o.dst with
     |none=>exact old (by rw [hdst,hd]; simp)
     | some d=>
      have hdn:d<a.tmps.size:=by rw [h.tmps,h.n]; exact c.dlt i hi d (by rw [hdst,hd])
      rw [uY hdn]
      by_cases htd:t=d
      ·subst htd
       rw [if_pos rfl,hv t hd]
       exact hvr
      ·rw [if_neg htd]
       exact old (by rw [hdst,hd]; intro q; injection q with q; exact htd q.symm)
   obtain ⟨v,hv,hvd⟩:∃v,wf P E.ng rd ops i F st v∧∀d,o.dst=some d→yj F.l d=v:=by
    unfold xA at hstill
    rw [hdst]at hstill
    cases hd:o.dst with
    |none=>rw [hd]at hstill; obtain⟨v,hv⟩:=hstill; exact⟨v,hv,by simp⟩
    |some d=>rw [hd]at hstill; exact⟨_,hstill,by intro e he; injection he with he; rw [he]⟩
   unfold wf at hv
   rw [ho]at hv
   simp only at hv
   cases hw:yE ops F.l o with
   |none=>rw [hw]at hv; exact hv.elim
   | some t=>
    rw [hw]at hv
    cases t with
    | true=>
     rw [if_pos (hwant _ hw)]
     exact KDo.reserve hv R hR h.gl h.rd h.rel hmo fun cv G' w' g1 g2 g3 g4=>cont v cv G' w' hvd g2 g3 g1 g4
    | false=>
     rw [if_neg (by rw [hwant _ hw]; simp)]
     simp only at hv
     subst hv
     exact⟨fun g _=>h.rd.fn g,cont (.tuple []) undef G w hvd (.tuple rfl (by simp)) h.rel (.refl _) fun b hb=>⟨rfl,(hR b hb).2⟩⟩
  ·by_cases hiL:i∈L
   ·
    have hiE:=(c.late i hiL hi).1
    have hirest:i∈rest:=by
     have:=him
     rw [h.split]at this
     rcases List.mem_append.1 this with h1|h1
     ·exact absurd (List.mem_reverse.1 h1) his
     ·exact h1
    have hordlt:∀x∈rest,x<ops.size:=fun x hx=>c.lt x (by rw [h.split]; simp [hx])
    obtain ⟨o',tm,cs,ho',hk⟩:=Vq (n:=n) hiE hiL rest seen F st h.ad hirest (fun x hx _ _=>hordlt x hx) (by
     intro pre post hpp x hx d hd hr
     have hsp:order=seen.reverse++(pre++i::post):=by rw [←hpp]; exact h.split
     have hxr:x∈rest:=by rw [hpp]; simp [hx]
     have hxs:x∉seen:=c.not_seen h.split hxr
     rcases c.reads i hi d hr x (hordlt x hxr) hd with h1|h1
     ·rcases h.doneSeen x (hB x h1)with h2|h2
      ·exact hxs h2
      ·exact(c.late i hiL hi).2.2 d hr x h2 hd
     ·rcases h1.2 with h2|h2
      ·subst h2; exact hiE h1.1
      ·
       obtain⟨s,t,hst⟩:=List.append_of_mem hx
       have hsp2:order=(x::(seen.reverse++s).reverse).reverse++(t++i::post):=by rw [hsp,hst]; simp
       have:=c.seen hsp2 (j:=x) (by simp) i h2
       have hnot:=c.not_seen hsp2 (i:=i) (by simp)
       exact hnot this) h.n (fun x hx d hd=>c.dlt x (hordlt x hx) d hd)
    rw [ho]at ho'; injection ho' with ho'; subst ho'
    have hguard:=(c.late i hiL hi).2.1 o ho
    rw [if_pos (by unfold Region.wanted; rw [hguard])]
    refine mK (B:=w0) (h:=st) hE h.gl h.rd hmo hk ?_
    intro cv C el room q1 q2 q3 q4
    have hpre':pw P E rd Fn ops n order Es L B w0 G0 K (fun j=>if j=i then w.heap.size else ab j) (listed.setIfInBounds i true) rest seen F st G (w.alloc (.cells C el)) (a.put o.dst cv):=by
     refine {size:=hsize',split:=h.split,doneSeen:= ?_,effDone:= ?_,closed:=hclosed',inv:= ?_,ad:=h.ad,rel:=h.rel.junk _,defers:=hdef (.refl _),tmps:=hput,ahead:= ?_,inj:= ?_,slot:= ?_,n:=h.n,ext:=h.ext,gl:=h.gl,rd:=h.rd}
     ·intro j hj
      rw [yb hsz]at hj
      rcases hj with rfl|hj
      ·exact .inr hiL
      ·exact h.doneSeen j hj
     ·intro j hj he; rw [yb hsz]; exact .inr (h.effDone j hj he)
     ·intro j hj hd; rw [yb hsz]at hd; exact h.inv j hj fun hd'=>hd (.inr hd')
     ·intro j hj hd hjn
      by_cases hji:j=i
      ·subst hji
       simp only [if_true]
       refine⟨o,tm,cs,C,el,room,ho,hk, ?_,h.rel.kept.size, ?_,q1,q2,q3, ?_⟩
       ·show(w.heap.push _)[w.heap.size]? =_; simp
       ·intro id x k e1 e2
        exact absurd (h.rel.lt _ _ _ e2).1 (Nat.lt_irrefl _)
       ·intro d hd' G' id g1 g2
        have hdn:d<a.tmps.size:=by rw [h.tmps,h.n]; exact c.dlt j hi d (by rw [hdst,hd'])
        rw [hd',uY hdn,if_pos rfl]
        exact q4 G' id g1 g2
      ·have hd:Dn listed j:=by
        rw [yb hsz]at hd
        exact hd.resolve_left hji
       simp only [if_neg hji]
       have hA:=h.ahead j hj hd hjn
       have hq:=(hR (ab j) ⟨j,hj,hd,hjn,rfl⟩)
       exact hA.turn (fun _ _=>rfl) (.refl _) (Go.RowKit.Below.heap_alloc _ _ _ hq.1) hq.2 (fun d hdd=>hsame (c.uniq j i (hLs j hj) hi hji d hdd))
     ·intro x hx y hy hxd hyd hxn hyn he
      have e1:∀ {z},z≠i→Dn (listed.setIfInBounds i true) z→Dn listed z:=fun {z} hz hd=>by
       rw [yb hsz]at hd
       exact hd.resolve_left hz
      by_cases hxi:x=i
      ·by_cases hyi:y=i
       ·exact hxi.trans hyi.symm
       ·exfalso
        simp only [if_pos hxi,if_neg hyi]at he
        have:=(hR (ab y) ⟨y,hy,e1 hyi hyd,hyn,rfl⟩).1
        omega
      ·by_cases hyi:y=i
       ·exfalso
        simp only [if_pos hyi,if_neg hxi]at he
        have:=(hR (ab x) ⟨x,hx,e1 hxi hxd,hxn,rfl⟩).1
        omega
       ·simp only [if_neg hxi,if_neg hyi]at he
        exact h.inj x hx y hy (e1 hxi hxd) (e1 hyi hyd) hxn hyn he
     ·intro t ht1 ht2
      have hne:zk ops i≠some t:=ht2 i hiL (by rw [yb hsz]; exact .inl rfl) his
      rw [hsame hne]
      exact h.slot t (fun j hj hdn=>ht1 j hj (by
       rw [yb hsz]
       rintro(h1|h1)
       ·subst h1; exact his hj
       ·exact hdn h1)) (fun j hj hjd hjn=>ht2 j hj (by rw [yb hsz]; exact .inr hjd) hjn)
    obtain⟨rest',seen',F',st',G',hp,hh⟩:=hpre'.norm c
    exact ih _ _ rest' seen' F' st' G' _ _ hp hh hfuel
   ·
    cases hr:rest with
    | nil=>
     exfalso
     have:=h.split
     rw [hr,List.append_nil]at this
     rw [this]at him
     exact his (List.mem_reverse.1 him)
    | cons e r=>
     have hie:=headSeen e r hr his hiL
     subst hie
     have hiE:i∈Es:=by
      rcases hhd i r hr with h1|h1
      ·exact h1
      ·exact absurd h1.1 hiL
     have hsplit:order=seen.reverse++i::r:=by rw [←hr]; exact h.split
     have had:=h.ad
     rw [hr]at had
     simp only [kD2]at had
     rw [if_pos (by simpa using hiE)]at had
     have cont:∀(v:KV) (cv:Value) (st1:KH) (G':Gh) (w':World),uE P E.ng rd ops (Es++L) (B.getD i []) seen (F.put o.dst v) st1→kD2 P E rd ops Es L B r (i::seen) (F.put o.dst v) st1 K→KR G' v cv→KRel w0 G' st1 w'→G.le G'→(∀b,R b→w'.heap[b]? =w.heap[b]? ∧Yt st1 G' b) →
       wpAnyIn Fn nn P .any ops Q fuel (listed.setIfInBounds i true) (a.put o.dst cv) w':=by
      intro v cv st1 G' w' hstab had' hvr hrel hx hkeep
      have hpre':pw P E rd Fn ops n order Es L B w0 G0 K ab (listed.setIfInBounds i true) r (i::seen) (F.put o.dst v) st1 G' w' (a.put o.dst cv):=by
       refine {size:=hsize',split:=by rw [hsplit]; simp,doneSeen:= ?_,effDone:= ?_,closed:=hclosed',inv:= ?_,ad:=had',rel:=hrel,defers:=by rw [XU]; exact hdef hx,tmps:=by rw [qt]; exact hput,ahead:= ?_,inj:= ?_,slot:= ?_,n:=by rw [qt]; exact h.n,ext:=h.ext.trans hx,gl:=h.gl.le hx,rd:=h.rd.le hx}
       ·intro j hj
        rw [yb hsz]at hj
        rcases hj with rfl|hj
        ·exact .inl (by simp)
        ·exact(h.doneSeen j hj).imp (List.mem_cons_of_mem _) id
       ·intro j hj he
        rw [yb hsz]
        rcases List.mem_cons.1 hj with h1|h1
        ·exact .inl h1
        ·exact .inr (h.effDone j h1 he)
       ·intro j hj hd
        rw [yb hsz]at hd
        rcases List.mem_cons.1 hj with h1|h1
        ·exact absurd (.inl h1) hd
        ·exact qj hstab j h1 (fun he=>hd (.inr (h.effDone j h1 (.inl he)))) (fun he=>hd (.inr (h.effDone j h1 (.inr he)))) (fun hb=>hd (.inr (hB j hb)))
       ·intro j hj hd hjn
        simp only [List.mem_cons,not_or]at hjn
        have hd:Dn listed j:=by
         rw [yb hsz]at hd
         exact hd.resolve_left hjn.1
        have hq:=hkeep (ab j) ⟨j,hj,hd,hjn.2,rfl⟩
        refine(h.ahead j hj hd hjn.2).turn ?_ hx hq.1 hq.2 (fun d hdd=>hsame (c.uniq j i (hLs j hj) hi hjn.1 d hdd))
        intro t ht
        cases hd':o.dst with
        |none=>rfl
        | some d=>
         have hdn:d<F.n:=by rw [h.n]; exact c.dlt i hi d (by rw [hdst,hd'])
         rw [xE hdn,if_neg]
         rintro rfl
         rcases c.reads j (hLs j hj) t ht i hi (by rw [hdst,hd'])with h1|h1
         ·exact hnd (c.dn h.closed (hLs j hj) hd i h1)
         ·rcases h1.2 with h2|h2
          ·exact hjn.1 h2.symm
          ·have hsp2:order=(i::seen).reverse++r:=by rw [hsplit]; simp
           rcases List.mem_cons.1 (c.seen hsp2 (j:=i) (by simp) j h2)with h3|h3
           ·exact hjn.1 h3
           ·exact hjn.2 h3
       ·intro x hx y hy hxd hyd hxn hyn
        simp only [List.mem_cons,not_or]at hxn hyn
        have e1:∀ {z},z≠i→Dn (listed.setIfInBounds i true) z→Dn listed z:=fun {z} hz hd=>by
         rw [yb hsz]at hd
         exact hd.resolve_left hz
        exact h.inj x hx y hy (e1 hxn.1 hxd) (e1 hyn.1 hyd) hxn.2 hyn.2
       ·intro t ht1 ht2
        have old:KR G' (yj F.l t) (a.tmps.getD t undef):=(h.slot t (fun j hj hdn=>ht1 j (List.mem_cons_of_mem _ hj) (by
         rw [yb hsz]
         rintro(h1|h1)
         ·subst h1; exact his hj
         ·exact hdn h1)) (fun j hj hjd hjn=>ht2 j hj (by rw [yb hsz]; exact .inr hjd) (by
          simp only [List.mem_cons,not_or]
          exact⟨fun q=>hiL (q▸hj),hjn⟩))).le hx
        cases hd:o.dst with
        |none=>exact old
        | some d=>
         have hdn:d<F.n:=by rw [h.n]; exact c.dlt i hi d (by rw [hdst,hd])
         rw [uY (by rw [h.tmps]; exact hdn),xE hdn]
         by_cases htd:t=d
         ·rw [if_pos htd,if_pos htd]; exact hvr
         ·rw [if_neg htd,if_neg htd]; exact old
      obtain⟨rest',seen',F',st',G'',hp,hh⟩:=hpre'.norm c
      exact ih _ _ rest' seen' F' st' G'' _ _ hp hh hfuel
     unfold Bu at had
     rw [ho]at had
     simp only at had
     cases hw:yE ops F.l o with
     |none=>rw [hw]at had; exact had.elim
     | some t=>
      rw [hw]at had
      cases t with
      | true=>
       obtain⟨v,st1,hv,k1,k2⟩:=had
       rw [if_pos (hwant _ hw)]
       exact KDo.reserve hv R hR h.gl h.rd h.rel hmo fun cv G' w' g1 g2 g3 g4=>cont v cv st1 G' w' k1 k2 g2 g3 g1 g4
      | false=>
       rw [if_neg (by rw [hwant _ hw]; simp)]
       obtain⟨k1,k2⟩:=had
       exact⟨fun g _=>h.rd.fn g,cont (.tuple []) undef st G w k1 k2 (.tuple rfl (by simp)) h.rel (.refl _) fun b hb=>⟨rfl,(hR b hb).2⟩⟩
theorem Db {fr fr':KFr} {h h':KH} {id:Nat} (hE:E.Ok P) (hm:P.follows .mixedOrders=true) (c:uU ops fr.n order Es L B) (hLs:∀i∈L,i<ops.size)
  (k:kD2 P E rd ops Es L B order [] fr h fun f t=>f=fr'∧t=h'):KC P rd (.region id ops true) fr h .normal fr' h':=by
 intro w0 G w a F nn hg hr kr f
 refine wpIn_region_any hm ?_
 have hnone:∀j,¬Dn (Array.replicate ops.size false) j:=by
  intro j hd
  simp only [Dn,Array.getD_eq_getD_getElem?,Array.getElem?_replicate]at hd
  split at hd<;>simp at hd
 have hp:pw P E rd F ops fr.n order Es L B w0 G (fun f t=>f=fr'∧t=h') (fun _=>0) (Array.replicate ops.size false) order [] fr h G {w with drawn:=w.drawn+1} a:=
  {size:=by simp,split:=by simp,doneSeen:=fun i hi=>absurd hi (hnone i),effDone:=fun i hi=>(by cases hi),closed:=fun j k hj=>absurd hj (hnone j),inv:=fun j hj=>(by cases hj),ad:=k,rel:=kr.of_heap rfl rfl rfl rfl,defers:=f.ds,tmps:=f.sl.size,ahead:=fun j _ hd=>absurd hd (hnone j),inj:=fun i _ j _ hd=>absurd hd (hnone i),slot:=fun t _ _=>f.sl.slot t,n:=rfl,ext:= .refl _,gl:=hg,rd:=hr}
 obtain⟨rest',seen',F',st',G',hp',hh⟩:=hp.norm c
 refine ce (rd:=rd) hE c hLs (w0:=w0) (G0:=G) (Fn:=F) (nn:=nn) (K:=fun f t=>f=fr'∧t=h') (Q:=kf w0 G .normal fr' h') (fun f1 st1 G1 a1 w1 m1 m2 m3 m4=>⟨rfl,G1,m4,m1.1▸m3,m1.2▸m2⟩) ops.size _ _ rest' seen' F' st' G' _ a hp' hh ?_
 refine Nat.le_trans (List.length_filter_le _ _) (by simp)
end
def Wb (P:Program) (f:FuncId) (args:List KV) (h:KH) (h':KH):Prop:=
 ∀ (B:zM) (G:Gh) (w:World) (u:FrameMode) (cargs:Array Value) (n:Nat),Glob P G→KRel B G h w→KRs G args cargs →
  CallsDIn Fence.wide n P f cargs u w fun en u' w1=>u'=u∧∃c G',en= .returned c∧G.le G'∧KRel B G' h' w1
section
variable {P:Program} {E:KE} {S:KF_} {B:zM} {G:Gh} {h h1 h':KH} {w:World} {fr fr':KFr} {a:Act}
theorem Bv (hE:E.Ok P) {f:FuncId} {fn:Func} {c:Code} {args:List KV} {e:Exit} {r:KV} (hf:P.funcs[f]? =some fn) (hb:fn.body=some c) (hn:args.length≤fn.ntmps)
  (k:KC P none c (gY fn args) h e fr' h') (he:e= .normal∨e= .ret) (hd:fr'.d= []) (hr:KB E h' fr'.l fn.results=some r):Wb P f args h h':=fun B G w u cargs n hg kr ha=>by
 refine(callsDIn_of_wp (R:=fun en w1=>∃c G',en= .returned c∧G.le G'∧KRel B G' h' w1) hf hb trivial ?_).mono fun _ _ _ q=>q
 refine wpIn_mono (k B G w _ Fence.wide n hg .out kr (ZL ha hn)) ?_
 rintro e1 a1 w1 ⟨rfl,G',g1,g2,g3⟩
 have hds:=g2.ds
 rw [hd]at hds
 have hdd:a1.defers= []:=by cases hq:a1.defers with|nil=>rfl|cons x y=>rw [hq]at hds; cases hds
 obtain⟨cv,c1,c2⟩:=Ua (P:=P) hE g3 g2.sl hr
 rcases he with rfl|rfl
 ·exact⟨hdd,cv,c1,cv,G',rfl,g1,g3⟩
 ·exact⟨hdd,cv,c1,cv,G',rfl,g1,g3⟩
inductive q7 (P:Program) (S:KF_):List KD→KH→KH→Prop
 |nil {h:KH}:q7 P S [] h h
 |fn {f:FuncId} {fn:Func} {c:Code} {cap args:List KV} {ds:List KD} {h h1 h':KH}:S.F f=some fn→fn.body=some c→Wb P f (args++cap) h h1→q7 P S ds h1 h'→q7 P S (.fn (.func f) cap args::ds) h h'
 |collected {id:Nat} {ds:List KD} {h h':KH}:h.get id=some (.defd (some []))→q7 P S ds (h.set id (some (.defd none))) h'→q7 P S (.collected id::ds) h h'
theorem Qw {w:World} {b:Nat} {x y:Obj} (hx:w.heap[b]? =some x):Chg w (w.putObj b y) b y:=by
 have hl:=heap_lt hx
 exact {size:=World.putObj_size,at_:=World.putObj_heap_same hl,other:=fun k hk=>World.putObj_heap_other hk,os:=rfl,tape:=rfl,output:=rfl}
theorem UV (hS:S.Ok P) {fn:Func} {tmps:Array Value} {R:Ending→World→Prop} {n:Nat}:∀ {ds:List KD} {h h':KH},q7 P S ds h h'→∀ {G:Gh} {w:World} {cds:List Deferred},Glob P G→KRel B G h w→KDs G ds cds →
  (∀G' w1,G.le G'→KRel B G' h' w1→LeavesIn Fence.wide n P fn tmps R [] .returning w1)→LeavesInM Fence.wide n P fn tmps R cds .returning w:=by
 intro ds h h' kl
 induction kl with
 | nil=>
  intro G w cds hg kr hd hk
  cases hd
  exact hk G w (.refl _) kr
 | @fn f fn' c cap args ds h h1 h' hf hb hc hl ih=>
  intro G w cds hg kr hd hk
  cases hd with
  | cons hd hds=>
   cases hd with
   | fn hcap hargs=>
    rename_i r cc ca
    refine⟨by simp, .inr ⟨fun hd=>(by cases hd), .func f,cc,f,ca++cc,rfl, ?_,fun g _=>trivial, ?_⟩⟩
    ·exact vj hS hf hb _ _
    ·refine(hc B G w .returning (ca++cc) (n-1) hg kr (KRs.append hargs hcap)).mono ?_
     rintro en u' w1 ⟨rfl,cv,G',rfl,g1,g2⟩
     exact ih (hg.le g1) g2 (hds.le g1) fun G'' w2 k1 k2=>hk G'' w2 (g1.trans k1) k2
 | @collected id ds h h' hget hl ih=>
  intro G w cds hg kr hd hk
  cases hd with
  | cons hd hds=>
   cases hd with
   | collected ha=>
    rename_i r b k
    obtain⟨b',k',ob,e1,_,e3,e4⟩:=kr.blk _ _ hget
    rw [ha]at e1; cases e1
    cases e4 with
    | defd hds0=>
     cases hds0
     have kr':=kr.chg hget rfl rfl ha (Qw (y:= .deferred none) e3) .defd0
     exact⟨by simp, .inl ⟨b,_,rfl,run_takeDeferred e3,ih hg kr' hds fun G'' w2 k1 k2=>hk G'' w2 k1 k2⟩⟩
theorem YX (hE:E.Ok P) (hS:S.Ok P) {f:FuncId} {fn:Func} {c:Code} {args:List KV} {e:Exit} {r:KV} (hf:P.funcs[f]? =some fn) (hb:fn.body=some c) (hn:args.length≤fn.ntmps)
  (k:KC P none c (gY fn args) h e fr' h1) (he:e= .normal∨e= .ret) (hl:q7 P S fr'.d h1 h') (hr:KB E h' fr'.l fn.results=some r):KCall P f args h r h':=fun B G w cargs n hg kr ha=>by
 refine callsIn_of_wp_marks hf hb trivial ?_
 refine wpIn_mono (k B G w _ Fence.wide n hg .out kr (ZL ha hn)) ?_
 rintro e1 a1 w1 ⟨rfl,G',g1,g2,g3⟩
 have key:LeavesInM Fence.wide n P fn a1.tmps (fun en w1=>∃c G',en= .returned c∧G.le G'∧KR G' r c∧KRel B G' h' w1) a1.defers .returning w1:=by
  refine UV hS hl (hg.le g1) g3 g2.ds ?_
  intro G2 w2 k1 k2
  obtain⟨cv,c1,c2⟩:=Ua (P:=P) hE k2 (g2.sl.le k1) hr
  exact⟨cv,c1,cv,G2,rfl,g1.trans k1,c2,k2⟩
 rcases he with rfl|rfl
 ·exact key
 ·exact key
theorem B8 (hE:E.Ok P) {ops:Array Oper} {i:Nat} {is:List Nat} {o:Oper} {cl:Call} {fo:Operand} {f:FuncId} {first cap:List KV} (hi:ops[i]? =some o) (hop:o.op= .defer cl) (hw:yE ops fr.l o=some true)
  (hc:cl.callee= .value fo) (hv:zf E.ng fr.l fo= .func (.func f) first cap)
  (k1:KO_ P none ops is ({fr with d:= .fn (.func f) cap (first++cl.args.toList.map (zf E.ng fr.l))::fr.d}.put o.dst (.tuple [])) h fr' h'):KO_ P none ops (i::is) fr h fr' h':=fun B G w a F n Q hg hr k hfr hq=>by
 have hev:=fun x=>hfr.eval hg hE.ng x
 simp only [wpOpsIn,hi,uq hfr hw,if_true]
 refine⟨fun g _=>hr.fn g, ?_⟩
 cases hr
 obtain⟨callee,args,tys⟩:=cl
 simp only at hc
 subst hc
 have hx:=hev fo
 rw [hv]at hx
 generalize hcv:a.eval fo=cv at hx
 cases hx with
 | func l1 r1 l2 r2=>
  rename_i c1 c2
  have hrun:(o.semAt Fence.wide.round a.eval).run P w= .ok (.defer ⟨.fn (.func f) c2,c1++args.map a.eval⟩) w:=by
   have:o.semAt Fence.wide.round a.eval=execOp a.eval o:=rfl
   rw [this]
   simp only [execOp,hop,resolve,Sem.run_bind,hcv,Deferred.ofValue,Sem.run_pure,Result.andThen_ok]
  rw [hrun]
  have hd':KDs G (.fn (.func f) cap (first++args.toList.map (zf E.ng fr.l))::fr.d) (⟨.fn (.func f) c2,c1++args.map a.eval⟩::a.defers):= .cons (.fn ⟨l2,r2⟩ (KRs.append ⟨l1,r1⟩ (jl (E:=E) hev args))) hfr.ds
  have hf':FrR G {fr with d:= .fn (.func f) cap (first++args.toList.map (zf E.ng fr.l))::fr.d} {a with defers:=⟨.fn (.func f) c2,c1++args.map a.eval⟩::a.defers}:=⟨hfr.sl,hd'⟩
  exact k1 B G w _ Fence.wide n Q hg .out k (hf'.put o.dst (.tuple rfl (by simp))) hq
end
def xe.fr (L:xe):KFr:=⟨L.n,L.l,[]⟩
def Z7:List Tmp→List KV→KFr→KFr
 |t::ts,v::vs,fr=>Z7 ts vs (fr.put (some t) v)
 |_,_,fr=>fr
def gj:Exit→Option (Option Code)
 | .normal=>some none
 | .ret=>some (some .ret)
 | .exit i=>some (some (.exit i))
 | .goto t=>some (some (.goto t))
 |_=>none
section
variable {P:Program} {E:KE} {S:KF_} {B:zM} {G:Gh} {h h1 h2 h3 h':KH} {w:World} {fr fr1 fr3 fr':KFr} {a:Act} {rd:Option Nat}
theorem VA:∀ {ts:List Tmp} {vs:List KV} {cs:List Value} {fr:KFr} {tmps:Array Value},vs.length=cs.length→(∀(i:Nat) v c,vs[i]? =some v→cs[i]? =some c→KR G v c)→FrR G fr {tmps,defers:= []} →
  FrR G (Z7 ts vs fr) {tmps:=(ts.zip cs).foldl (fun tmps (t,a)=>tmps.setIfInBounds t a) tmps,defers:= []}
 | [],vs,cs,fr,tmps,hl,hv,hf=>by cases vs<;>exact hf
 | t::ts,[],cs,fr,tmps,hl,hv,hf=>by
  have:cs= []:=List.eq_nil_of_length_eq_zero (by simpa using hl.symm)
  subst this; exact hf
 |t::ts,v::vs,[],fr,tmps,hl,hv,hf=>by simp at hl
 | t::ts,v::vs,c::cs,fr,tmps,hl,hv,hf=>by
  simp only [Z7,List.zip_cons_cons,List.foldl_cons]
  exact VA (by simpa using hl) (fun i u x h1 h2=>hv (i+1) u x (by simpa using h1) (by simpa using h2)) (hf.put (some t) (hv 0 v c rfl rfl))
theorem KRel.loop (r:KRel B G h w) {id:Nat} {L:xe} (hg:h.get id=some (.loop L)):∃b k C,G.at_ id=some (b,k)∧w.heap[b]? =some (.loop C)∧KO.R G (G.room id) k (.loop L) (.loop C):=by
 obtain⟨b,k,ob,e1,_,e3,e4⟩:=r.blk _ _ hg
 cases e4 with
 |loop a b c d e f g=>exact⟨_,_,_,e1,e3, .loop a b c d e f g⟩
theorem KRel.loopSet (r:KRel B G h w) {id b k:Nat} {L:xe} {C:Loop} (hg:h.get id=some (.loop L)) (ha:G.at_ id=some (b,k)) (hb:w.heap[b]? =some (.loop C)) (hr:KO.R G (G.room id) k (.loop L) (.loop C)) (s:LoopState) (p:Option Code) {p':Option Code} (hp:p'=p:=by rfl):
  KRel B G (h.set id (some (.loop {L with state:=s,pending:=p}))) (w.putObj b (.loop {C with state:=s,pending:=p'})):=by
 subst hp
 refine r.chg hg rfl rfl ha (Qw hb) ?_
 cases hr with
 |loop a b c d e f g=>exact .loop rfl rfl c d e f g
theorem RdR.inRound {F:Fence} (hr:RdR G rd F) {id b k:Nat} (ha:G.at_ id=some (b,k)):RdR G (some id) (F.inRound b):=by
 cases hr with
 |out=>exact .inl ha
 |inl _=>exact .inl ha
theorem KDo.yield (hE:E.Ok P) {o:Oper} {l:Sl} {cl:Call} {fo:Operand} {id:Nat} {L L1 L3:xe} {e:Exit} {j:Option Code} (hop:o.op= .call cl) (hc:cl.callee= .value fo) (hv:zf E.ng l fo= .yield id)
  (hL:h.get id=some (.loop L)) (hn:cl.args.size=L.params.size) (kA:KC P (some id) L.assign (Z7 L.params.toList (cl.args.toList.map (zf E.ng l)) L.fr) h .normal fr1 h1)
  (hL1:h1.get id=some (.loop L1)) (hs:L1.state= .ready) (kB:KC P (some id) L.body fr1 (h1.set id (some (.loop {L1 with state:= .busy}))) e fr3 h3) (hj:gj e=some j) (hL3:h3.get id=some (.loop L3)):
  KDo P E.ng rd o l h (.bool j.isNone) (h3.set id (some (.loop {L3 with state:=if j.isNone then .ready else .done,pending:=j}))):=fun B G w a F n K Q hg hr kr hev hk=>by
 refine⟨fun g _=>hr.fn g, ?_⟩
 have hnd:∀d,o.op≠ .defer d:=fun d hd=>by rw [hop]at hd; cases hd
 obtain⟨b,k,C,ha,hb,hC⟩:=kr.loop hL
 obtain⟨callee,args,tys⟩:=cl
 simp only at hc hn kA
 subst hc
 have hx:=hev fo (by rw [hop]; simp [Op.operands,Call.operands])
 rw [hv]at hx
 generalize hcv:a.eval fo=cv at hx
 cases hx with
 | yield ha'=>
  rename_i b' k'
  rw [ha]at ha'; cases ha'
  have hC':=hC
  cases hC with
  | loop c1 c2 c3 c4 c5 c6 c7=>
   have hsz:(args.map a.eval).size=C.params.size:=by rw [Array.size_map,hn,c4]
   have hrun:(execOp a.eval o).run P w= .ok (.round b C.fn ((C.params.zip (args.map a.eval)).foldl (fun tmps (t,a)=>tmps.setIfInBounds t a) C.tmps) C.assign C.body) w:=by
    simp only [execOp,hop,resolve,Sem.run_bind,hcv,Deferred.ofValue,Sem.run_pure,Result.andThen_ok,invoke,Array.empty_append]
    exact run_yield hb hsz
   rw [Oper.semAt_eq _ _ _ hnd,hrun]
   refine⟨fun hd=>(by rw [hr.depth]at hd; cases hd), ?_⟩
   refine(roundIn_of_wpIn (R:=fun en w1=>∃G',en= .returned (.bool j.isNone)∧G.le G'∧KRel B G' (h3.set id (some (.loop {L3 with state:=if j.isNone then .ready else .done,pending:=j}))) w1) (hr.fn _) ?_).mono ?_
   ·have hfr:FrR G (Z7 L.params.toList (args.toList.map (zf E.ng l)) L.fr) {tmps:=(C.params.zip (args.map a.eval)).foldl (fun tmps (t,a)=>tmps.setIfInBounds t a) C.tmps,defers:= []}:=by
     have:(C.params.zip (args.map a.eval)).foldl (fun tmps (t,a)=>tmps.setIfInBounds t a) C.tmps=(L.params.toList.zip (args.toList.map a.eval)).foldl (fun tmps (t,a)=>tmps.setIfInBounds t a) C.tmps:=by
      rw [←Array.foldl_toList,Array.toList_zip,Array.toList_map,c4]
     rw [this]
     refine VA (by simp) ?_ ⟨c3, .nil⟩
     intro i v c h1 h2
     rw [List.getElem?_map]at h1 h2
     cases hq:args.toList[i]? with
     |none=>rw [hq]at h1; cases h1
     | some x=>
      rw [hq]at h1 h2
      simp only [Option.map_some,Option.some.injEq]at h1 h2
      subst h1 h2
      refine hev x ?_
      rw [hop]; simp [Op.operands,Call.operands]
      right; exact Array.mem_toList_iff.1 (List.mem_of_getElem? hq)
    rw [c5]at kA
    refine wpIn_mono (kA B G w _ (F.inRound b) (n-1) hg (hr.inRound ha) kr hfr) ?_
    rintro e1 a1 w1 ⟨rfl,G1,g1,f1,r1⟩
    obtain⟨b1,k1,C1,ha1,hb1,hC1⟩:=r1.loop hL1
    rw [g1.at_ ha]at ha1; cases ha1
    have hs1:C1.state= .ready:=by cases hC1 with|loop q _ _ _ _ _ _=>rw [←q]; exact hs
    refine⟨_,run_beginRound hb1 hs1, ?_⟩
    have hp1:C1.pending=L1.pending:=by cases hC1 with|loop _ q _ _ _ _ _=>exact q.symm
    have r2:=r1.loopSet hL1 (g1.at_ ha) hb1 hC1 .busy L1.pending hp1
    rw [c6]at kB
    refine wpIn_mono (kB B G1 _ a1 (F.inRound b) (n-1) (hg.le g1) ((hr.le g1).inRound (g1.at_ ha)) r2 f1) ?_
    rintro e2 a2 w2 ⟨rfl,G2,g2,f2,r3⟩
    obtain⟨b2,k2,C3,ha2,hb2,hC3⟩:=r3.loop hL3
    rw [g2.at_ (g1.at_ ha)]at ha2; cases ha2
    have r4:=r3.loopSet hL3 (g2.at_ (g1.at_ ha)) hb2 hC3 (if j.isNone then .ready else .done) j
    have fin:∃v w',(Instr.endRound b j).run P w2= .ok v w'∧∃G',Ending.returned v= .returned (.bool j.isNone)∧G.le G'∧KRel B G' (h3.set id (some (.loop {L3 with state:=if j.isNone then .ready else .done,pending:=j}))) w':=
     ⟨_,_,run_endRound j hb2,G2,rfl,g1.trans g2,r4⟩
    cases e2 with
    |normal=>simp only [gj,Option.some.injEq]at hj; subst hj; exact fin
    |ret=>simp only [gj,Option.some.injEq]at hj; subst hj; exact fin
    |exit i=>simp only [gj,Option.some.injEq]at hj; subst hj; exact fin
    |goto t=>simp only [gj,Option.some.injEq]at hj; subst hj; exact fin
    |panic _=>simp [gj]at hj
    |outgrown=>simp [gj]at hj
   ·rintro en w1 ⟨G',rfl,g1,g2⟩
    exact hk _ G' w1 g1 (.bool _) g2
end
def qh:Option Code→Option Exit
 |none=>some .normal
 |some .ret=>some .ret
 |some (.exit i)=>some (.exit i)
 |_=>none
section
variable {P:Program} {E:KE} {S:KF_} {B:zM} {G:Gh} {h h1 h2 h3 h':KH} {w:World} {fr fr1 fr3 fr':KFr} {a:Act} {rd:Option Nat}
theorem Bj (hE:E.Ok P) (hS:S.Ok P) {g:Operand} {f:FuncId} {fn:Func} {c:Code} {first cap:List KV} {r:KV} {e:Exit} {lid b k:Nat} {L:xe} {mark:List Deferred} {kmark:List KD}
  (hgv:zf E.ng fr.l g= .func (.func f) first cap) (hf:S.F f=some fn) (hb:fn.body=some c) (kc:KCall P f (first ++ [.yield lid]++cap) h2 r h3) (hL:h3.get lid=some (.loop L)) (hs:L.state≠ .busy) (he:qh L.pending=some e)
  {F:Fence} {n:Nat} {G2:Gh} {w2:World} (hr:RdR G2 rd F) (hg:Glob P G2) (hG:G.le G2) (kr:KRel B G2 h2 w2) (hfr:FrR G2 fr a) (hm:KDs G2 kmark mark) (ha:G2.at_ lid=some (b,k)):
  ∃ (d:Deferred) (w₁':World) (f':FuncId) (args:Array Value) (w₂:World),
   (resolve a.eval (rangeCall g b) 0).run P w2= .ok d w₁'∧(∀f'',Target.leads P w₁' d.target d.args=some f''→F.fn f'')∧(invoke d.target d.args).run P w₁'= .ok (.enter f' args) w₂∧(F.depth.isSome=true→1≤n) ∧
   CallsIn F (n-1) P f' args w₂ (rangePost F n P b (kf B G e {fr with d:=kmark++fr.d} (h3.set lid (some (.loop {L with state:= .exhausted})))) {a with defers:=mark++a.defers}):=by
 have hv:=hfr.eval hg hE.ng g
 rw [hgv]at hv
 generalize hcv:a.eval g=cv at hv
 cases hv with
 | func l1 r1 l2 r2=>
  rename_i c1 c2
  refine⟨⟨.fn (.func f) c2,c1 ++ #[.func (.yield b) #[] #[]]⟩,w2,f,c1 ++ #[.func (.yield b) #[] #[]]++c2,w2, ?_,fun f'' _=>hr.fn f'', ?_,fun hd=>(by rw [hr.depth]at hd; cases hd), ?_⟩
  ·have:(#[Operand.const (.func (.yield b) #[] #[])]).map a.eval= #[.func (.yield b) #[] #[]]:=by rw [List.map_toArray]; rfl
   simp only [resolve,rangeCall,Sem.run_bind,hcv,Deferred.ofValue,Sem.run_pure,this]
  ·exact vj hS hf hb _ _
  ·have hargs:KRs G2 (first ++ [.yield lid]++cap) (c1 ++ #[.func (.yield b) #[] #[]]++c2):=KRs.append (KRs.append ⟨l1,r1⟩ ⟨rfl,fun i u x h1 h2=>by
    match i with
    |0=>simp at h1 h2; subst h1 h2; exact .yield ha
    |i+1=>simp at h1⟩) ⟨l2,r2⟩
   refine(kc.inF hr (n-1) hg kr hargs).mono ?_
   rintro en w3 ⟨cv',G3,rfl,g1,g2,g3⟩
   obtain⟨b',k',C,ha',hb',hC⟩:=g3.loop hL
   rw [g1.at_ ha]at ha'; cases ha'
   have hsC:C.state=L.state:=by cases hC with|loop q _ _ _ _ _ _=>exact q.symm
   have hpC:C.pending=L.pending:=by cases hC with|loop _ q _ _ _ _ _=>exact q.symm
   have r4:=g3.loopSet hL (g1.at_ ha) hb' hC .exhausted L.pending hpC
   have hds:KDs G3 (kmark++fr.d) (mark++a.defers):=by
    have:∀ {x y},KDs G2 x y→KDs G3 (x++fr.d) (y++a.defers):=fun {x y} hxy=>by
     induction hxy with
     |nil=>exact hfr.ds.le g1
     |cons q _ ih=>exact .cons (q.le g1) ih
    exact this hm
   have post:kf B G e {fr with d:=kmark++fr.d} (h3.set lid (some (.loop {L with state:= .exhausted}))) e {a with defers:=mark++a.defers} (w3.putObj b (.loop {C with state:= .exhausted})):=
    ⟨rfl,G3,hG.trans g1,⟨hfr.sl.le g1,hds⟩,r4⟩
   refine⟨C.pending,_,run_endLoop hb' (by rw [hsC]; exact hs), ?_⟩
   rw [hpC]
   rw [hpC]at post
   cases hp:L.pending with
   |none=>rw [hp]at he post; simp only [qh,Option.some.injEq]at he; subst he; exact post
   | some c=>
    rw [hp]at he post
    cases c with
    |ret=>simp only [qh,Option.some.injEq]at he; subst he; exact wpIn_ret post
    |exit i=>simp only [qh,Option.some.injEq]at he; subst he; exact wpIn_exit post
    |_=>simp [qh]at he
def We (fr:KFr) (ps:Array Tmp) (assign body:Code) (did:Nat):xe:={state:= .ready,pending:=none,n:=fr.n,l:=fr.l,params:=ps,assign,body,defers:=did}
theorem Pa (hE:E.Ok P) (hS:S.Ok P) {g:Operand} {ps:Array Tmp} {assign body:Code} {f:FuncId} {fn:Func} {c:Code} {first cap:List KV} {r:KV} {e:Exit} {L:xe} (hroom:h.next+2<65000)
  (hgv:zf E.ng fr.l g= .func (.func f) first cap) (hf:S.F f=some fn) (hb:fn.body=some c)
  (kc:KCall P f (first ++ [.yield (h.next+1)]++cap) ((h.push (.defd (some []))).push (.loop (We fr ps assign body h.next))) r h3) (hL:h3.get (h.next+1)=some (.loop L)) (hs:L.state≠ .busy) (he:qh L.pending=some e):
  KC P none (.rangeFunc g ps assign body) fr h e {fr with d:= .collected h.next::fr.d} (h3.set (h.next+1) (some (.loop {L with state:= .exhausted}))):=fun B G w a F n hg hr kr hfr=>by
 refine wpIn_rangeFunc fun fn' _=> ?_
 have k1:=kr.alloc (o:= .defd (some [])) (ob:= .deferred (some [])) (room:=0) (by omega) (.defd .nil)
 have l1:=Gh.new_le G kr.fresh (w.heap.size,0) 0
 have a1:=Gh.new_at G h.next (w.heap.size,0) 0
 have k2:=k1.alloc (o:= .loop (We fr ps assign body h.next)) (ob:= .loop {state:= .ready,pending:=none,fn:=fn',tmps:=a.tmps,params:=ps,assign,body,defers:=w.heap.size}) (room:=0) (by show h.next+1+1<_; omega)
  (.loop rfl rfl ((hfr.sl.le l1).le (Gh.new_le _ k1.fresh _ _)) rfl rfl rfl ((Gh.new_le _ k1.fresh _ _).at_ a1))
 have l2:=Gh.new_le _ k1.fresh ((w.alloc (.deferred (some []))).heap.size,0) 0
 have a2:=Gh.new_at (G.new h.next (w.heap.size,0) 0) (h.push (.defd (some []))).next ((w.alloc (.deferred (some []))).heap.size,0) 0
 have hl:=l1.trans l2
 cases hr
 obtain⟨d,w₁',f',args,w₂,q1,q2,q3,q4,q5⟩:=Bj (F:=Fence.wide) (n:=n) (mark:= [{target:= .collected w.heap.size,args:= #[]}]) (kmark:= [.collected h.next]) hE hS hgv hf hb kc hL hs he .out (hg.le hl) hl k2 (hfr.le hl) (.cons (.collected (l2.at_ a1)) .nil) a2
 refine⟨w.heap.size+1,_,_,d,w₁',f',args,w₂,run_enterLoop_outer fn' a.tmps ps assign body, ?_⟩
 have hz:(w.alloc (.deferred (some []))).heap.size=w.heap.size+1:=by show(w.heap.push _).size=_; simp
 rw [hz]at q1 q5
 exact⟨q1,q2,q3,q4,q5⟩
theorem WV {b:Frame} {k:List Item} {cs:List Frame} {c:Code}:step P (lone (b.atR a (.code (.scope c)::k)) cs w)= .next (lone (b.atR a (.code c:: .inScope c::k)) cs w):=
 step_lone_go (by simp [stepG,stepG.exec,Frame.atR])
theorem Yu {b:Frame} {k:List Item} {cs:List Frame} {c:Code}:step P (lone (b.atR a (.inScope c::k)) cs w)= .next (lone (b.atR a k) cs w):=
 step_lone_go (by simp [stepG,stepG.exec,Frame.atR])
theorem qu {c:Code} {e:Exit} (k1:KC P rd c fr h e fr' h') (he:∀l,e≠ .goto l):KC P rd (.scope c) fr h e fr' h':=fun B G w a F n hg hr kr hfr=>by
 intro b k cs hro hb hroom
 obtain⟨e1,a1,w1,⟨rfl,q⟩,harr⟩:=k1 B G w a F n hg hr kr hfr b (.inScope c::k) cs hro hb hroom
 refine⟨e1,a1,w1,⟨rfl,q⟩, .of_steps (.one (fenced_calm hb hroom rfl) WV) ?_⟩
 cases e1 with
 |normal=>exact StepsIn.trans harr (.one (fenced_calm hb hroom rfl) Yu)
 |exit id=>exact⟨fun k' hk=>harr.1 k' (by simpa [exitTo] using hk),fun h1 hk=>harr.2 h1 (by simpa [exitTo] using hk)⟩
 |goto l=>exact absurd rfl (he l)
 |ret=>exact harr
 |panic ch=>exact harr
 |outgrown=>exact harr
end
def k8 (T:TypeId→TI):Op→Bool
 | .convert _ d _=>match(T d).d with| .slice .. => false|_=>true
 | .move _| .assign _| .pick .. | .build .. | .load .. | .nilCheck _| .binOp .. | .unOp .. | .makeInterface .. | .makeFunc .. | .slice .. | .fieldAddr .. | .field .. | .indexAddr .. | .index .. | .lookup .. | .typeAssert .. | .extract .. | .entry _=>true
 | .call ⟨.builtin .len,_,_⟩=>true
 | .call ⟨.builtin .min,_,_⟩=>true
 | .call ⟨.builtin .max,_,_⟩=>true
 |_=>false
theorem bi {E:KE} {l:Sl} {h h':KH} {op:Op} {v:KV} (hp:k8 E.T op=true) (e:zw E l h op=some (v,h')):h'=h:=by
 have m2:∀ {x:Option KV},(x.map fun v=>(v,h))=some (v,h')→h'=h:=fun e=>(bA e).2
 have hconv:∀ {s d:TypeId} {x:KV},(match(E.T d).d with| .slice .. => false|_=>true)=true→vK h E.T s d x=some (v,h')→h'=h:=by
  intro s d x hp e
  unfold vK at e
  split at e
  ·split at e
   ·split at e
    ·simp only [Option.some.injEq,Prod.mk.injEq]at e; exact e.2.symm
    ·cases e
   ·split at e
    ·simp only [Option.some.injEq,Prod.mk.injEq]at e; exact e.2.symm
    ·rename_i hd; rw [hd]at hp; cases hp
    ·cases e
   ·split at e
    ·split at e
     ·simp only [Option.some.injEq,Prod.mk.injEq]at e; exact e.2.symm
     ·cases e
    ·cases e
   ·split at e
    ·split at e
     ·simp only [Option.some.injEq,Prod.mk.injEq]at e; exact e.2.symm
     ·cases e
    ·cases e
   ·split at e
    ·split at e
     ·split at e
      ·split at e
       ·simp only [Option.some.injEq,Prod.mk.injEq]at e; exact e.2.symm
       ·cases e
      ·cases e
     ·cases e
    ·cases e
   ·cases e
  ·cases e
 unfold k8 at hp
 split at hp
 ·simp only [zw]at e; exact hconv hp e
 all_goals (first|(cases hp; done)|skip)
 all_goals (simp only [zw]at e)
 all_goals (try (exact m2 e))
 all_goals (try (simp only [Option.some.injEq,Prod.mk.injEq]at e; exact e.2.symm))
 all_goals (try (split at e<;>first|(exact m2 e)|(simp only [Option.some.injEq,Prod.mk.injEq]at e; exact e.2.symm)|(cases e; done)|(split at e<;>first|(simp only [Option.some.injEq,Prod.mk.injEq]at e; exact e.2.symm)|(exact m2 e)|(cases e; done))))
 all_goals (unfold v8 at e; split at e)
 all_goals (first|(cases e; done)|(exact m2 e)|skip)
 all_goals (first|(split at e<;>exact m2 e)|(rename_i hb _ _; cases hb; done)|(rename_i hb _; cases hb; done)|skip)
mutual
def xp:KV→KV→Bool
  | .bool a, .bool b=>(bif a then b else !b)
  | .int k a, .int k' b=>decide (k=k')&&decide (a=b)
  | .str n a, .str m b=>Nat.beq n m&&Nat.beq a b
  | .ptr i o, .ptr j p=>Nat.beq i j&&Nat.beq o p
  | .nilp, .nilp=>true
  | .sl i o l c s, .sl j p m d t=>Nat.beq i j&&Nat.beq o p&&Nat.beq l m&&decide (c=d)&&Nat.beq s t
  | .slz, .slz=>true
  | .nilsl, .nilsl=>true
  | .func (.func f) a b, .func (.func g) c d=>Nat.beq f g&&jf a c&&jf b d
  | .nilfunc, .nilfunc=>true
  | .yield i, .yield j=>Nat.beq i j
  | .agg a, .agg b=>jf a b
  | .tuple a, .tuple b=>jf a b
  | .map i, .map j=>Nat.beq i j
  | .nilmap, .nilmap=>true
  | .iface t a, .iface u b=>Nat.beq t u&&xp a b
  | .niliface, .niliface=>true
  |_,_=>false
  termination_by structural x=>x
def jf:List KV→List KV→Bool
  | [],[]=>true
  |a::l,b::r=>xp a b&&jf l r
  |_,_=>false
  termination_by structural x=>x
end
mutual
theorem wV :∀(a b:KV),xp a b=true→a=b
  | .junk,b,h=>by simp [xp]at h
  | .bool a,b,h=>by cases b with|bool c=>(cases a<;>cases c<;>simp_all [xp])|_=>simp [xp]at h
  | .int k a,b,h=>by cases b with|int k' c=>(simp only [xp,Bool.and_eq_true,decide_eq_true_eq]at h; rw [h.1,h.2])|_=>simp [xp]at h
  | .str n a,b,h=>by cases b with|str m c=>(simp only [xp,Bool.and_eq_true,Nat.beq_eq]at h; rw [h.1,h.2])|_=>simp [xp]at h
  | .ptr i o,b,h=>by cases b with|ptr j p=>(simp only [xp,Bool.and_eq_true,Nat.beq_eq]at h; rw [h.1,h.2])|_=>simp [xp]at h
  | .nilp,b,h=>by cases b with|nilp=>rfl|_=>simp [xp]at h
  | .sl i o l c s,b,h=>by cases b with|sl j p m d t=>(simp only [xp,Bool.and_eq_true,Nat.beq_eq,decide_eq_true_eq]at h; obtain⟨⟨⟨⟨rfl,rfl⟩,rfl⟩,rfl⟩,rfl⟩:=h; rfl)|_=>simp [xp]at h
  | .slz,b,h=>by cases b with|slz=>rfl|_=>simp [xp]at h
  | .nilsl,b,h=>by cases b with|nilsl=>rfl|_=>simp [xp]at h
  | .func fn a b,y,h=>by
    cases y with
    | func gn c d=>
      cases fn with
      | func f=>
        cases gn with
        | func g=>
          simp only [xp,Bool.and_eq_true,Nat.beq_eq]at h
          rw [h.1.1,xL a c h.1.2,xL b d h.2]
        |_=>simp [xp]at h
      |_=>simp [xp]at h
    |_=>cases fn<;>simp [xp]at h
  | .nilfunc,b,h=>by cases b with|nilfunc=>rfl|_=>simp [xp]at h
  | .yield i,b,h=>by cases b with|yield j=>(simp only [xp,Nat.beq_eq]at h; rw [h])|_=>simp [xp]at h
  | .agg a,b,h=>by cases b with|agg c=>(simp only [xp]at h; rw [xL a c h])|_=>simp [xp]at h
  | .tuple a,b,h=>by cases b with|tuple c=>(simp only [xp]at h; rw [xL a c h])|_=>simp [xp]at h
  | .map i,b,h=>by cases b with|map j=>(simp only [xp,Nat.beq_eq]at h; rw [h])|_=>simp [xp]at h
  | .nilmap,b,h=>by cases b with|nilmap=>rfl|_=>simp [xp]at h
  | .iface t a,b,h=>by cases b with|iface u c=>(simp only [xp,Bool.and_eq_true,Nat.beq_eq]at h; rw [h.1,wV a c h.2])|_=>simp [xp]at h
  | .niliface,b,h=>by cases b with|niliface=>rfl|_=>simp [xp]at h
theorem xL:∀(a b:List KV),jf a b=true→a=b
  | [],[],_=>rfl
  | a::l,b::r,h=>by
    simp only [jf,Bool.and_eq_true]at h
    rw [wV a b h.1,xL l r h.2]
  | [],_::_,h=>by simp [jf]at h
  |_::_,[],h=>by simp [jf]at h
end
def Zi:Op→Bool
 | .alloc _| .box .. | .buildSlice .. | .makeSlice .. => true
 |_=>false
theorem Ub {E:KE} {l:Sl} {h h':KH} {op:Op} {v:KV} (hc:Zi op=true) (e:zw E l h op=some (v,h')):∃tm cs,kal E l op=some (tm,cs)∧yw h=true∧v=tm.at h.next∧h'=h.push (.cells false cs):=by
 cases op<;>first|(cases hc; done)|skip
 ·rename_i el
  simp only [zw]at e
  split at e
  ·rename_i hh
   simp only [Option.some.injEq,Prod.mk.injEq]at e
   obtain⟨rfl,rfl⟩:=e
   exact⟨.ptr,_,by simp only [kal]; rw [if_pos ⟨hh.1,hh.2.1⟩],hh.2.2,rfl,rfl⟩
  ·cases e
 ·rename_i t x
  simp only [zw]at e
  split at e
  ·rename_i hh
   simp only [Option.some.injEq,Prod.mk.injEq]at e
   obtain⟨rfl,rfl⟩:=e
   exact⟨.ptr,_,by simp only [kal]; rw [if_pos hh.1],hh.2,rfl,rfl⟩
  ·cases e
 ·rename_i t len ps
  simp only [zw,vz]at e
  split at e
  ·rename_i el sz by_ hd
   split at e
   ·rename_i hh
    split at e
    ·rename_i cs hf
     simp only [Option.some.injEq,Prod.mk.injEq]at e
     obtain⟨rfl,rfl⟩:=e
     exact⟨.sl len len sz,cs,by simp only [kal,hd]; rw [if_pos ⟨hh.1,hh.2.1,hh.2.2.1⟩,hf],hh.2.2.2,rfl,rfl⟩
    ·cases e
   ·cases e
  ·cases e
 ·rename_i t n c
  simp only [zw,ZZ]at e
  split at e
  ·rename_i el sz bytes k1 li k2 ci hd hn hcc
   split at e
   ·rename_i hh
    simp only [Option.some.injEq,Prod.mk.injEq]at e
    obtain⟨rfl,rfl⟩:=e
    exact⟨.sl li.toNat ci.toNat sz,_,by simp only [kal,hd,hn,hcc]; rw [if_pos ⟨hh.1,hh.2.1,hh.2.2.1,hh.2.2.2.1,hh.2.2.2.2.1,hh.2.2.2.2.2.1⟩],hh.2.2.2.2.2.2,rfl,rfl⟩
   ·cases e
  ·cases e
def Ut (ops:Array Oper) (n:Nat) (order Es L:List Nat) (B:List (List Nat)):Bool:=
 decide order.Nodup&&order.length==ops.size&&(List.range ops.size).all (fun i=>order.contains i)&&order.all (fun i=>decide (i<ops.size)) &&
 (List.range order.length).all (fun p=>(dp ops (order.getD p 0)).all fun k=>(order.take p).contains k) &&
 (List.range ops.size).all (fun j=>(B.getD j []).all fun i=>(dp ops j).contains i||(dp ops j).any fun k=>(B.getD k []).contains i) &&
 (List.range ops.size).all (fun i=>(match zk ops i with|some d=>decide (d<n)|none=>true)&&(List.range ops.size).all fun j=>i==j||(match zk ops i,zk ops j with|some d,some e=> !(d==e)|_,_=>true)) &&
 (List.range ops.size).all (fun i=>(zN ops i).all fun t=>(List.range ops.size).all fun w=>(match zk ops w with|some d=> !(d==t)|none=>true)||(B.getD i []).contains w||(Es.contains w&&((w==i)||(B.getD w []).contains i))) &&
 (List.range order.length).all (fun p=> !(Es.contains (order.getD p 0)||L.contains (order.getD p 0))||(order.drop (p+1)).all fun j=>L.contains j||(B.getD j []).contains (order.getD p 0)) &&
 L.all (fun i=>decide (i<ops.size) && !(Es.contains i)&&(match ops[i]? with|some o=>o.guard.isNone|none=>true)&&(zN ops i).all fun t=>L.all fun k=>match zk ops k with|some d=> !(d==t)|none=>true)
theorem uU.of {ops:Array Oper} {n:Nat} {order Es L:List Nat} {B:List (List Nat)} (h:Ut ops n order Es L B=true):uU ops n order Es L B∧∀i∈L,i<ops.size:=by
 simp only [Ut,Bool.and_eq_true,List.all_eq_true,List.mem_range,decide_eq_true_eq,beq_iff_eq,List.contains_iff_mem,Bool.or_eq_true,List.any_eq_true,Bool.not_eq_true',List.contains_eq_mem,decide_eq_false_iff_not,Bool.or_eq_false_iff]at h
 obtain⟨⟨⟨⟨⟨⟨⟨⟨⟨h0,h1⟩,h2⟩,h3⟩,h4⟩,h5⟩,h6⟩,h7⟩,h9⟩,h10⟩:=h
 have getD:∀p (hp:p<order.length),order.getD p 0=order[p]:=fun p hp=>by simp [List.getD,hp]
 refine ⟨{
  nodup:=h0
  len:=h1
  all:=h2
  lt:=h3
  topo:=fun p hp k hk=>h4 p hp k (by rw [getD p hp]; exact hk)
  clos:=fun j hj i hi=>h5 j hj i hi
  dlt:=fun i hi d hd=>by
   have:=(h6 i hi).1
   rw [hd]at this; simpa using this
  uniq:=fun i j hi hj hne d hd hd'=>by
   have:=(h6 i hi).2 j hj
   rcases this with h|h
   ·exact hne h
   ·rw [hd,hd']at h; simp at h
  reads:=fun i hi t ht k hk hd=>by
   have:=h7 i hi t ht k hk
   rcases this with(h|h)|h
   ·rw [hd]at h; simp at h
   ·exact .inl h
   ·exact .inr h
  waits:=fun p hp he j hj hjL=>by
   have:=h9 p hp
   rw [getD p hp]at this
   rcases this with h|h
   ·exact(he.elim h.1 h.2).elim
   ·exact(h j hj).resolve_left hjL
  late:=fun i hi hs=>by
   obtain⟨⟨⟨_,q2⟩,q3⟩,q4⟩:=h10 i hi
   refine⟨q2,fun o ho=> ?_,fun t ht k hk hd=> ?_⟩
   ·rw [ho]at q3; simpa using q3
   ·have:=q4 t ht k hk
    rw [hd]at this; simp at this},fun i hi=>(h10 i hi).1.1.1⟩
end Go.K
end
