/- Closed runs: a part. No condition beyond each statement's own. -/
import Derived.Test.YtkabooclnoiclaaGreatDoorK08
set_option linter.all false
section
namespace Go.K
open Go.Abs
structure DE where
 i:Nat
 p:Nat
 q:Option Nat
def NV:Nat:=64990
theorem mz:NV+1<65000:=by decide
attribute [irreducible] NV
def hmK (cs:List KV):KH:=KH.set ⟨N64k.empty,NV+1⟩ NV (some (.cells true cs))
theorem KB (cs:List KV) (id:Nat):(hmK cs).get id=if id=NV then some (.cells true cs)else none:=by
 unfold hmK
 rw [get_set _ (Nat.lt_of_succ_lt mz)]
 split
 ·rfl
 ·exact N64k.get_empty _
section
variable {P:Program} {E:KE} {rd:Option Nat} {ops:Array Oper}
def vsl (E:KE) (ops:Array Oper) (l:Sl) (e:DE):Option (Sl×KH):=
 match ops[e.p]? with
 |none=>none
 | some o=>match kal E l o.op,o.dst with
  | some (tm,cs),some d=>match e.q with
   |none=>some (xp l d (tm.at NV),hmK cs)
   | some q=>match ops[q]? with
    |none=>none
    | some o2=>match zu E (xp l d (tm.at NV)) (hmK cs) o2.op,o2.dst with
     |some (v,_),some d2=>some (xp (xp l d (tm.at NV)) d2 v,hmK cs)
     |_,_=>none
  |_,_=>none
def dvl (E:KE) (ops:Array Oper) (l:Sl) (e:DE):Option KV:=
 match vsl E ops l e,ops[e.i]? with
 |some (l,hm),some o=>(zu E l hm o.op).map (·.1)
 |_,_=>none
def VN (ops:Array Oper) (e:DE) (t:Nat):Prop:=
 t∈zo ops e.p∨(∃q,e.q=some q∧t∈zo ops q∧zd ops e.p≠some t)∨(t∈zo ops e.i∧zd ops e.p≠some t∧∀q,e.q=some q→zd ops q≠some t)
theorem uh {ng:Nat} {l l':Sl} {o:Oper} (h:∀t∈wr o,zN l t=zN l' t):∀x∈o.op.operands,zg ng l x=zg ng l' x:=by
 intro x hx
 cases x with
 |tmp t=>exact h t (List.mem_filterMap.2 ⟨.tmp t,by simpa using hx,rfl⟩)
 |_=>rfl
theorem wc {i:Nat} {o:Oper} (ho:ops[i]? =some o) {t:Nat} (ht:t∈wr o):t∈zo ops i:=by
 unfold zo; rw [ho]; simp [ht]
theorem qS {i:Nat} {o:Oper} (ho:ops[i]? =some o):zd ops i=o.dst:=by simp [zd,ho]
theorem Gi {e:DE} {l l':Sl} (h:∀t,VN ops e t→zN l t=zN l' t):dvl E ops l e=dvl E ops l' e:=by
 unfold dvl vsl
 cases hp:ops[e.p]? with
 |none=>rfl
 | some o =>
  simp only
  have hk:kal E l o.op=kal E l' o.op:=uc o.op (uh fun t ht=>h t (.inl (wc hp ht)))
  rw [hk]
  cases kal E l' o.op with
  |none=>rfl
  | some x =>
   obtain⟨tm,cs⟩:=x
   cases hd:o.dst with
   |none=>rfl
   | some d =>
    simp only
    have hdp:zd ops e.p=some d:=by rw [qS hp,hd]
    cases hq:e.q with
    | none=>
     simp only
     cases hi:ops[e.i]? with
     |none=>rfl
     | some oi=>
      simp only
      rw [uU oi.op (uh (o:=oi) (l:=xp l d (tm.at NV)) (l':=xp l' d (tm.at NV)) fun t ht=> ?_)]
      rw [yS,yS]
      split
      ·rfl
      ·rename_i hne
       exact h t (.inr (.inr ⟨wc hi ht,by rw [hdp]; intro q; injection q with q; exact hne q.symm,fun q e1=>by rw [hq]at e1; cases e1⟩))
    | some q =>
     simp only
     cases hoq:ops[q]? with
     |none=>rfl
     | some o2=>
      simp only
      have hk2:zu E (xp l d (tm.at NV)) (hmK cs) o2.op=zu E (xp l' d (tm.at NV)) (hmK cs) o2.op:=uU o2.op (uh (o:=o2) fun t ht=>by
       rw [yS,yS]
       split
       ·rfl
       ·rename_i hne
        exact h t (.inr (.inl ⟨q,hq,wc hoq ht,by rw [hdp]; intro q; injection q with q; exact hne q.symm⟩)))
      rw [hk2]
      cases zu E (xp l' d (tm.at NV)) (hmK cs) o2.op with
      |none=>rfl
      | some y=>
       obtain⟨v,h2⟩:=y
       cases hd2:o2.dst with
       |none=>rfl
       | some d2=>
        simp only
        have hdq:zd ops q=some d2:=by rw [qS hoq,hd2]
        cases hi:ops[e.i]? with
        |none=>rfl
        | some oi=>
         simp only
         rw [uU oi.op (uh (o:=oi) (l:=xp (xp l d (tm.at NV)) d2 v) (l':=xp (xp l' d (tm.at NV)) d2 v) fun t ht=> ?_)]
         rw [yS,yS,yS,yS]
         split
         ·rfl
         ·rename_i hne2
          split
          ·rfl
          ·rename_i hne
           exact h t (.inr (.inr ⟨wc hi ht,by rw [hdp]; intro q; injection q with q; exact hne q.symm,fun q' e1=>by
            rw [hq]at e1; injection e1 with e1; subst e1
            rw [hdq]; intro q; injection q with q; exact hne2 q.symm⟩))
def DOk (E:KE) (ops:Array Oper) (l:Sl) (e:DE) (v:KV):Prop:=
 dvl E ops l e=some v∧(∃o,ops[e.i]? =some o∧o.guard=none∧wV E.T o.op=true)∧(v.free=true∨∃off,v= .ptr NV off)
theorem DOk.congr {e:DE} {l l':Sl} {v:KV} (h:∀t,VN ops e t→zN l t=zN l' t) (k:DOk E ops l e v):DOk E ops l' e v:=⟨by rw [←Gi h]; exact k.1,k.2⟩
def PB (E:KE) (ops:Array Oper) (l:Sl) (G:Gh) (w:World) (a:Act) (b p:Nat):Prop:=
 ∃ o tm cs C el fz room,ops[p]? =some o∧kal E l o.op=some (tm,cs)∧w.heap[b]? =some (.cells C el fz)∧cs.length≤room∧room≤C.size ∧
  (∀(i:Nat) (v:KV) (x:Value),cs[i]? =some v→C[i]? =some x→KR G v x)∧∀d,o.dst=some d→∀(G':Gh) (id:Nat),G'.at_ id=some (b,0)→G'.room id=room→KR G' (tm.at id) (a.tmps.getD d undef)
def DV (G:Gh) (b:Nat) (v:KV) (c:Value):Prop:=(v.free=true→KR G v c)∧∀off,v= .ptr NV off→∀(G':Gh) (id:Nat),G'.at_ id=some (b,0)→KR G' (.ptr id off) c
theorem rR (hE:E.Ok P) {e:DE} {F:KFr} {G:Gh} {w0:zJ} {st:KH} {w:World} {a:Act} {b:Nat} {v:KV} {o:Oper} (hpb:PB E ops F.l G w a b e.p) (hok:DOk E ops F.l e v) (ho:ops[e.i]? =some o)
  (hr:KRel w0 G st w) (hnx:st.next≤NV) (hg:Glob P G) {Fn:Fence} {nn:Nat} (hrd:RdR G rd Fn) (hsz:a.tmps.size=F.n) (hds:KDs G F.d a.defers)
  (hq:∀q,e.q=some q→∃(x:DE) (vq:KV) (d:Nat),x.i=q∧x.p=e.p∧x.q=none∧DOk E ops F.l x vq∧zd ops q=some d∧DV G b vq (a.tmps.getD d undef))
  (hout:∀t∈zo ops e.i,zd ops e.p≠some t→(∀q,e.q=some q→zd ops q≠some t)→KR G (zN F.l t) (a.tmps.getD t undef))
  {K:Act→World→Prop} {Q:Exit→Act→World→Prop} (hk:∀cv w',k9 ⟨w,fun _=>False,fun _ _=>none⟩ w'→DV G b v cv→K (a.put o.dst cv) w'):o.wpIn Fn nn P a w K Q:=by
 obtain⟨hdv,⟨o',ho',_,hpure⟩,hshape⟩:=hok
 rw [ho]at ho'; cases ho'
 obtain⟨op,tm,cs,C,el,fz,room,p1,p2,p3,p4,p5,p6,p7⟩:=hpb
 have hfresh:G.at_ NV=none:=by
  cases e1:G.at_ NV with
  |none=>rfl
  |some x=>obtain⟨b',k'⟩:=x; exact absurd (hr.lt _ _ _ e1).2 (by omega)
 have hle:=Gh.new_le G hfresh (b,0) room
 have hrel:KRel ⟨w,fun _=>False,fun _ _=>none⟩ (G.new NV (b,0) room) (hmK cs) w:={
  kept:= .refl _ _ _
  blk:=fun id x e1=>by
   rw [KB]at e1
   split at e1
   ·rename_i hid
    subst hid; cases e1
    refine⟨b,0,_,Gh.new_at _ _ _ _,(fun h=>by cases h),p3, ?_⟩
    rw [Gh.new_room]
    exact .cells p4 (by omega) (fun h=>by cases h) fun j v x q1 q2=>(p6 j v x q1 (by simpa using q2)).le hle
   ·cases e1
  lt :=fun id b' k e1=>by
   have e1:(if id=NV then some (b,0)else G.at_ id)=some (b',k):=e1
   split at e1
   ·rename_i hid
    injection e1 with e1; injection e1 with e1 e2
    subst e1 hid
    exact⟨heap_lt p3,Nat.lt_succ_self _⟩
   ·have:=hr.lt _ _ _ e1
    exact⟨this.1,by show id<NV+1; omega⟩
  sep:=fun i j oi oj b' ki kj e1 e2 _ _=>by
   rw [KB]at e1 e2
   split at e1
   ·split at e2
    ·rename_i h1 h2; exact .inl (h1.trans h2.symm)
    ·cases e2
   ·cases e1
  top:=mz
  res:=fun _ _ _ _ _ _=> .inl rfl}
 obtain ⟨l, hm,hv,hx⟩:∃l,vsl E ops F.l e=some (l,hmK cs)∧zu E l (hmK cs) o.op=some (v,hmK cs)∧∀t∈zo ops e.i,KR (G.new NV (b,0) room) (zN l t) (a.tmps.getD t undef):=by
  unfold dvl at hdv
  cases hvs:vsl E ops F.l e with
  |none=>rw [hvs]at hdv; cases hdv
  | some y =>
   obtain⟨l,hm⟩:=y
   rw [hvs,ho]at hdv
   simp only at hdv
   obtain⟨⟨v',h'⟩,e1,e2⟩:=Option.map_eq_some_iff.1 hdv
   simp only at e2; subst e2
   have:=ue hpure e1
   subst this
   have hvs0:=hvs
   unfold vsl at hvs
   rw [p1]at hvs
   simp only [p2]at hvs
   cases hd:op.dst with
   |none=>rw [hd]at hvs; cases hvs
   | some d =>
    rw [hd]at hvs
    simp only at hvs
    have hdp:zd ops e.p=some d:=by rw [qS p1,hd]
    have hs:=p7 d hd (G.new NV (b,0) room) NV (Gh.new_at _ _ _ _) (Gh.new_room _ _ _ _)
    cases hqq:e.q with
    | none=>
     rw [hqq]at hvs
     simp only [Option.some.injEq,Prod.mk.injEq]at hvs
     obtain⟨rfl,rfl⟩:=hvs
     refine⟨_,rfl,e1,fun t ht=> ?_⟩
     rw [yS]
     split
     ·rename_i htd; subst htd; exact hs
     ·rename_i htd
      exact(hout t ht (by rw [hdp]; intro q; injection q with q; exact htd q.symm) (fun q e1=>by rw [hqq]at e1; cases e1)).le hle
    | some q=>
     rw [hqq]at hvs
     simp only at hvs
     cases hoq:ops[q]? with
     |none=>rw [hoq]at hvs; cases hvs
     | some o2=>
      rw [hoq]at hvs
      simp only at hvs
      cases hk2:zu E (xp F.l d (tm.at NV)) (hmK cs) o2.op with
      |none=>rw [hk2]at hvs; cases hvs
      | some z=>
       obtain⟨v2,h2⟩:=z
       rw [hk2]at hvs
       cases hd2:o2.dst with
       |none=>rw [hd2]at hvs; cases hvs
       | some d2=>
        rw [hd2]at hvs
        simp only [Option.some.injEq,Prod.mk.injEq]at hvs
        obtain⟨rfl,rfl⟩:=hvs
        have hdq:zd ops q=some d2:=by rw [qS hoq,hd2]
        obtain⟨x,vq,d',x1,x2,x3,⟨x4,_,x4'⟩,x5,x6⟩:=hq q hqq
        rw [hdq]at x5; injection x5 with x5; subst x5
        have hvq:vq=v2:=by
         unfold dvl vsl at x4
         rw [x1,x2,x3,p1]at x4
         simp only [p2,hd,hoq,hk2,Option.map_some,Option.some.injEq]at x4
         exact x4.symm
        subst hvq
        refine⟨_,rfl,e1,fun t ht=> ?_⟩
        rw [yS]
        split
        ·rename_i htd; subst htd
         rcases x4' with hf|⟨off,rfl⟩
         ·exact(x6.1 hf).le hle
         ·exact x6.2 off rfl _ _ (Gh.new_at _ _ _ _)
        ·rename_i htd2
         rw [yS]
         split
         ·rename_i htd; subst htd; exact hs
         ·rename_i htd
          exact (hout t ht (by rw [hdp]; intro q; injection q with q; exact htd q.symm) (fun q' e1=>by
           rw [hqq]at e1; injection e1 with e1; subst e1
           rw [hdq]; intro q; injection q with q; exact htd2 q.symm)).le hle
 let fr':KFr:={F with l:=l.filter fun t=>(zo ops e.i).contains t}
 have hfr:FrR (G.new NV (b,0) room) fr' a:=by
  refine⟨⟨hsz,fun t=> ?_⟩,hds.le hle⟩
  show KR _ (zN (l.filter fun t=>(zo ops e.i).contains t) t) _
  rw [yW]
  split
  ·rename_i hc
   exact hx t (by simpa using hc)
  ·exact .junk _
 have hops:∀x∈o.op.operands,KR (G.new NV (b,0) room) (zg E.ng l x) (a.eval x):=fun x hx'=>by
  have e1:zg E.ng l x=zg E.ng fr'.l x:=uh (o:=o) (fun t ht=>by
   show _=zN (l.filter fun t=>(zo ops e.i).contains t) t
   rw [yW,if_pos (by simpa using wc ho ht)]) x hx'
  rw [e1]
  exact hfr.eval (hg.le hle) hE.ng x
 refine KDo.exec (rd:=rd) hE hv _ (G.new NV (b,0) room) w a Fn nn K Q (hg.le hle) (hrd.le hle) hrel hops fun cv G' w' g1 g2 g3=>hk cv w' g3.kept ⟨fun hf=>g2.free G hf,fun off hof G2 id hat=> ?_⟩
 subst hof
 have hN:G'.at_ NV=some (b,0):=g1.at_ (Gh.new_at _ _ _ _)
 cases g2 with
 | ptr ha=>
  rw [hN]at ha; injection ha with ha; injection ha with ha1 ha2
  subst ha1 ha2
  exact .ptr hat
end
section
variable {P:Program} {E:KE} {rd:Option Nat} {ops:Array Oper} {n:Nat} {order Es L:List Nat} {D:List DE} {B:List (List Nat)}
structure GC (ops:Array Oper) (n:Nat) (order Es L:List Nat) (B:List (List Nat)):Prop where
 nodup:order.Nodup
 len:order.length=ops.size
 all:∀i,i<ops.size→i∈order
 lt:∀i∈order,i<ops.size
 topo:∀p (h:p<order.length),∀k∈dp ops order[p],k∈order.take p
 clos:∀j,j<ops.size→∀i∈B.getD j [],i∈dp ops j∨∃k∈dp ops j,i∈B.getD k []
 dlt:∀i,i<ops.size→∀d,zd ops i=some d→d<n
 uniq:∀i j,i<ops.size→j<ops.size→i≠j→∀d,zd ops i=some d→zd ops j≠some d
 reads:∀i,i<ops.size→∀t∈zo ops i,∀k,k<ops.size→zd ops k=some t→k∈B.getD i []∨(k∈Es∧(k=i∨i∈B.getD k []))
 waits:∀p (h:p<order.length),order[p]∈Es∨order[p]∈L→∀j∈order.drop (p+1),j∉L→order[p]∈B.getD j []
 late:∀i∈L,i<ops.size→i∉Es∧(∀o,ops[i]? =some o→o.guard=none)∧∀t∈zo ops i,∀k∈L,zd ops k≠some t
def XT (E:KE) (ops:Array Oper) (w0:zJ) (F:KFr) (st:KH) (G:Gh) (w:World) (a:Act) (b j:Nat):Prop:=
 ∃ o tm cs C el room,ops[j]? =some o∧kal E F.l o.op=some (tm,cs)∧w.heap[b]? =some (.cells C el (0,0))∧w0.w.heap.size≤b∧YJ st G b∧cs.length≤room∧room≤C.size ∧
  (∀(i:Nat) (v:KV) (x:Value),cs[i]? =some v→C[i]? =some x→KR G v x)∧∀d,o.dst=some d→∀(G':Gh) (id:Nat),G'.at_ id=some (b,0)→G'.room id=room→KR G' (tm.at id) (a.tmps.getD d undef)
theorem XT.turn {w0:zJ} {F F':KFr} {st st':KH} {G G':Gh} {w w':World} {a a':Act} {b j:Nat} (h:XT E ops w0 F st G w a b j) (hF:∀t∈zo ops j,zN F.l t=zN F'.l t) (hG:G.le G') (hw:w'.heap[b]? =w.heap[b]?) (hf:YJ st' G' b)
  (ha:∀d,zd ops j=some d→a'.tmps.getD d undef=a.tmps.getD d undef):XT E ops w0 F' st' G' w' a' b j:=by
 obtain⟨o,tm,cs,C,el,room,h1,h2,h3,h4,h5,h6,h7,h8,h9⟩:=h
 refine⟨o,tm,cs,C,el,room,h1, ?_,hw.trans h3,h4,hf,h6,h7,fun i v x q1 q2=>(h8 i v x q1 q2).le hG,fun d hd=> ?_⟩
 ·rw [←h2]
  exact(uc o.op (wK fun t ht=>hF t (by unfold zo; rw [h1]; simp [ht]))).symm
 ·rw [ha d (by simp [zd,h1,hd])]; exact h9 d hd
def Di (D:List DE):List Nat:=D.map (·.i)
theorem vO {D:List DE} {i:Nat}:i∈Di D↔∃e∈D,e.i=i:=List.mem_map
noncomputable def pL (v:KV):KV:=if v.free=true then v else .junk
structure wG (ops:Array Oper) (n:Nat) (order Es L:List Nat) (D:List DE) (B:List (List Nat)):Prop where
 nodup:order.Nodup
 len:order.length=ops.size
 all:∀i,i<ops.size→i∈order
 lt:∀i∈order,i<ops.size
 topo:∀p (h:p<order.length),∀k∈dp ops order[p],k∈order.take p
 clos:∀j,j<ops.size→∀i∈B.getD j [],i∈dp ops j∨∃k∈dp ops j,i∈B.getD k []
 dlt:∀i,i<ops.size→∀d,zd ops i=some d→d<n
 uniq:∀i j,i<ops.size→j<ops.size→i≠j→∀d,zd ops i=some d→zd ops j≠some d
 reads:∀i,i<ops.size→∀t∈zo ops i,∀k,k<ops.size→zd ops k=some t→k∈B.getD i []∨(k∈Es∧(k=i∨i∈B.getD k []))
 waits:∀p (h:p<order.length),order[p]∈Es∨order[p]∈L→∀j∈order.drop (p+1),j∉L→j∉Di D→order[p]∈B.getD j []
 late:∀i∈L,i<ops.size→i∉Es∧(∀o,ops[i]? =some o→o.guard=none)∧∀t∈zo ops i,(∀k∈L,zd ops k≠some t)∧∀k∈Di D,zd ops k≠some t
 dE:∀e∈D,e.i<ops.size∧e.i∉Es∧e.i∉L∧e.p∈L∧e.p<ops.size∧e.p∈B.getD e.i []
 dq:∀e∈D,∀q,e.q=some q→q∈B.getD e.i []∧(∃d,zd ops q=some d)∧∃x∈D,x.i=q∧x.p=e.p∧x.q=none
 du:∀x∈D,∀y∈D,x.i=y.i→x=y
 dr:∀e∈D,∀t,VN ops e t→∀k,k<ops.size→zd ops k=some t→k∉L∧k∉Di D∧k∈B.getD e.i []
 dw:∀e∈D,∀x∈Es,e.i∈B.getD x []∨∀k (h:k<order.length),order[k]=e.p→x∈order.take k
theorem wG.before (c:wG ops n order Es L D B):∀p (h:p<order.length),∀i∈B.getD order[p] [],i∈order.take p:=by
 intro p
 induction p using Nat.strongRecOn with
 | _ p ih=>
  intro h i hi
  rcases c.clos _ (c.lt _ (List.getElem_mem h)) i hi with hd|⟨k,hk,hki⟩
  ·exact c.topo p h i hd
  ·obtain⟨q,hq,hql,rfl⟩:=yq (c.topo p h k hk)
   have:=ih q hq hql i hki
   exact(List.take_sublist_take_left (by omega)).mem this
theorem wG.closed (c:wG ops n order Es L D B) {listed:Array Bool} (hc:yJ ops listed):∀p (h:p<order.length),Dn listed order[p]→∀i∈B.getD order[p] [],Dn listed i:=by
 intro p
 induction p using Nat.strongRecOn with
 | _ p ih=>
  intro h hd i hi
  rcases c.clos _ (c.lt _ (List.getElem_mem h)) i hi with hdp|⟨k,hk,hki⟩
  ·exact hc _ _ hd hdp
  ·obtain⟨q,hq,hql,rfl⟩:=yq (c.topo p h k hk)
   exact ih q hq hql (hc _ _ hd hk) i hki
theorem wG.ready (c:wG ops n order Es L D B) {listed:Array Bool} (hc:yJ ops listed) {j:Nat} (hj:j<ops.size) (hr:∀k∈dp ops j,Dn listed k):∀i∈B.getD j [],Dn listed i:=by
 intro i hi
 rcases c.clos j hj i hi with hd|⟨k,hk,hki⟩
 ·exact hr i hd
 ·have hkm:k<ops.size:=by
   obtain⟨p,hp,he⟩:=List.getElem_of_mem (c.all j hj)
   have:=c.topo p hp k (by rw [he]; exact hk)
   exact c.lt k (List.mem_of_mem_take this)
  obtain⟨p,hp,he⟩:=List.getElem_of_mem (c.all k hkm)
  exact c.closed hc p hp (by rw [he]; exact hr k hk) i (by rw [he]; exact hki)
theorem wG.dn (c:wG ops n order Es L D B) {listed:Array Bool} (hc:yJ ops listed) {j:Nat} (hj:j<ops.size) (hd:Dn listed j):∀i∈B.getD j [],Dn listed i:=c.ready hc hj fun k hk=>hc j k hd hk
theorem wG.seen (c:wG ops n order Es L D B) {seen rest:List Nat} (hs:order=seen.reverse++rest) {j:Nat} (hj:j∈seen):∀i∈B.getD j [],i∈seen:=by
 intro i hi
 have hjm:j∈order:=by rw [hs]; simp [hj]
 obtain⟨p,hp,he⟩:=List.getElem_of_mem hjm
 have hb:=c.before p hp i (by rw [he]; exact hi)
 have hpl:p<seen.length:=by
  rcases Nat.lt_or_ge p seen.length with h1|h1
  ·exact h1
  ·exfalso
   have hnd:=c.nodup
   rw [hs]at hnd
   have hdis:=(List.nodup_append.1 hnd).2.2
   have:order[p]∈rest:=by
    subst hs
    rw [List.getElem_append_right (by simpa using h1)]
    exact List.getElem_mem _
   rw [he]at this
   exact hdis j (List.mem_reverse.2 hj) j this rfl
 obtain⟨q,hq,hql,hqe⟩:=yq hb
 have:order[q]∈seen:=by
  subst hs
  rw [List.getElem_append_left (by simp; omega)]
  exact List.mem_reverse.1 (List.getElem_mem _)
 rw [hqe]at this; exact this
theorem wG.not_seen (c:wG ops n order Es L D B) {seen rest:List Nat} {i:Nat} (hs:order=seen.reverse++rest) (hi:i∈rest):i∉seen:=by
 intro h
 have hnd:=c.nodup
 rw [hs]at hnd
 exact(List.nodup_append.1 hnd).2.2 i (List.mem_reverse.2 h) i hi rfl
theorem wG.not_read (c:wG ops n order Es L D B) {seen rest:List Nat} {i:Nat} (hs:order=seen.reverse++i::rest) (hi:i∉Es) {j d:Nat} (hj:j∈seen) (hd:zd ops i=some d):d∉zo ops j:=by
 intro hr
 have him:i∈order:=by rw [hs]; simp
 have hjm:j∈order:=by rw [hs]; simp [hj]
 rcases c.reads j (c.lt j hjm) d hr i (c.lt i him) hd with h|h
 ·exact c.not_seen hs (by simp) (c.seen hs hj i h)
 ·exact hi h.1
theorem GC.to3 (c:GC ops n order Es L B):wG ops n order Es L [] B where
 nodup:=c.nodup
 len:=c.len
 all:=c.all
 lt:=c.lt
 topo:=c.topo
 clos:=c.clos
 dlt:=c.dlt
 uniq:=c.uniq
 reads:=c.reads
 waits:=fun p h q j hj hl _=>c.waits p h q j hj hl
 late:=fun i hi hs=>⟨(c.late i hi hs).1,(c.late i hi hs).2.1,fun t ht=>⟨(c.late i hi hs).2.2 t ht,fun k hk=>(by cases hk)⟩⟩
 dE:=fun e he=>(by cases he)
 dq:=fun e he=>(by cases he)
 du:=fun x hx=>(by cases hx)
 dr:=fun e he=>(by cases he)
 dw:=fun e he=>(by cases he)
theorem wG.take_seen (c:wG ops n order Es L D B) {seen rest:List Nat} (hs:order=seen.reverse++rest) {j:Nat} (hj:j∈seen):∃p,∃h:p<order.length,order[p]=j∧∀x∈order.take p,x∈seen:=by
 have hjm:j∈order:=by rw [hs]; simp [hj]
 obtain⟨p,hp,he⟩:=List.getElem_of_mem hjm
 have hpl:p<seen.length:=by
  rcases Nat.lt_or_ge p seen.length with h1|h1
  ·exact h1
  ·exfalso
   have hnd:=c.nodup
   rw [hs]at hnd
   have hdis:=(List.nodup_append.1 hnd).2.2
   have:order[p]∈rest:=by
    subst hs
    rw [List.getElem_append_right (by simpa using h1)]
    exact List.getElem_mem _
   rw [he]at this
   exact hdis j (List.mem_reverse.2 hj) j this rfl
 refine⟨p,hp,he,fun x hx=> ?_⟩
 obtain⟨q,hq,hql,hqe⟩:=yq hx
 have:order[q]∈seen:=by
  subst hs
  rw [List.getElem_append_left (by simp; omega)]
  exact List.mem_reverse.1 (List.getElem_mem _)
 rw [hqe]at this; exact this
def kD3 (P:Program) (E:KE) (rd:Option Nat) (ops:Array Oper) (Es L:List Nat) (D:List DE) (B:List (List Nat)):List Nat→List Nat→KFr→KH→(KFr→KH→Prop)→Prop
 | [],_,fr,h,K=>K fr h
 | i::rest,seen,fr,h,K=>
  if Es.contains i then W7 P E.ng rd ops i fr h fun fr' h'=>v6 P E.ng rd ops (Es++L++Di D) (B.getD i []) seen fr' h'∧(D≠ []→h'.next≤NV)∧kD3 P E rd ops Es L D B rest (i::seen) fr' h' K
  else if L.contains i then ∃o tm cs,ops[i]? =some o∧kal E fr.l o.op=some (tm,cs)∧yw h=true∧v6 P E.ng rd ops (Es++L++Di D) (B.getD i []) seen (fr.put o.dst (tm.at h.next)) (h.push (.cells false cs))∧(D≠ []→h.next+1≤NV)∧kD3 P E rd ops Es L D B rest (i::seen) (fr.put o.dst (tm.at h.next)) (h.push (.cells false cs)) K
  else if(Di D).contains i then ∃e v,e∈D∧e.i=i∧DOk E ops fr.l e v∧kD3 P E rd ops Es L D B rest (i::seen) (fr.put (zd ops i) (pL v)) h K
  else ∃v,xM P E.ng rd ops i fr h v∧kD3 P E rd ops Es L D B rest (i::seen) (fr.put (zd ops i) v) h K
theorem j5 {ng:Nat} {Bi X:List Nat} {F:KFr} {st:KH}:∀ {l:List Nat},v6 P ng rd ops X Bi l F st→∀j∈l,j∉X→j∉Bi→xn P ng rd ops j F st
 | [],_,j,hj,_,_=>by cases hj
 | x::l,hs,j,hj,h1,h3=>by
  simp only [v6]at hs
  rcases List.mem_cons.1 hj with rfl|hj
  ·have:=hs.1
   rw [if_neg (by simp only [Bool.or_eq_true,List.contains_iff_mem,not_or]; exact⟨h1,h3⟩)]at this
   exact this
  ·exact j5 hs.2 j hj h1 h3
theorem DOk.uniq {e:DE} {l:Sl} {v u:KV} (h:DOk E ops l e v) (k:DOk E ops l e u):v=u:=Option.some.inj (h.1.symm.trans k.1)
theorem DV.le {G G':Gh} {b:Nat} {v:KV} {c:Value} (h:DV G b v c) (hx:G.le G'):DV G' b v c:=⟨fun f=>(h.1 f).le hx,h.2⟩
theorem DV.kr {G:Gh} {b:Nat} {v:KV} {c:Value} (h:DV G b v c):KR G (pL v) c:=by
 unfold pL
 split
 ·rename_i hf; exact h.1 hf
 ·exact .junk _
def PS (E:KE) (ops:Array Oper) (l:Sl) (st:KH) (G:Gh) (a:Act) (b p:Nat):Prop:=
 ∃o tm cs id,ops[p]? =some o∧kal E l o.op=some (tm,cs)∧st.get id=some (.cells false cs)∧G.at_ id=some (b,0)∧∀d,o.dst=some d→∀(G':Gh) (i:Nat),G'.at_ i=some (b,0)→G'.room i=G.room id→KR G' (tm.at i) (a.tmps.getD d undef)
theorem PS.turn {l l':Sl} {st st':KH} {G G':Gh} {a a':Act} {b p:Nat} (h:PS E ops l st G a b p) (hF:∀t∈zo ops p,zN l t=zN l' t) (hst:∀id o,st.get id=some o→st'.get id=some o) (hG:G.le G')
  (ha:∀d,zd ops p=some d→a'.tmps.getD d undef=a.tmps.getD d undef):PS E ops l' st' G' a' b p:=by
 obtain⟨o,tm,cs,id,h1,h2,h3,h4,h5⟩:=h
 refine⟨o,tm,cs,id,h1, ?_,hst _ _ h3,hG.at_ h4,fun d hd G2 i q1 q2=> ?_⟩
 ·rw [←h2]; exact(uc o.op (uh fun t ht=>hF t (wc h1 ht))).symm
 ·rw [ha d (by rw [qS h1,hd])]
  exact h5 d hd G2 i q1 (q2.trans (hG.room h4))
theorem PS.pb {l:Sl} {st:KH} {G:Gh} {w0:zJ} {w:World} {a:Act} {b p:Nat} (h:PS E ops l st G a b p) (r:KRel w0 G st w):PB E ops l G w a b p:=by
 obtain⟨o,tm,cs,id,h1,h2,h3,h4,h5⟩:=h
 obtain⟨b',k',ob,e1,_,e3,e4⟩:=r.blk id _ h3
 rw [h4]at e1; injection e1 with e1; injection e1 with e1 e2; subst e1 e2
 cases e4 with
 |cells q1 q2 q3 q4=>exact⟨o,tm,cs,_,_,_,_,h1,h2,e3,q1,by omega,fun i v x m1 m2=>q4 i v x m1 (by simpa using m2),h5⟩
theorem XT.pb {w0:zJ} {F:KFr} {st:KH} {G:Gh} {w:World} {a:Act} {b p:Nat} (h:XT E ops w0 F st G w a b p):PB E ops F.l G w a b p:=by
 obtain⟨o,tm,cs,C,el,room,h1,h2,h3,h4,h5,h6,h7,h8,h9⟩:=h
 exact⟨o,tm,cs,C,el,_,room,h1,h2,h3,h6,h7,h8,h9⟩
structure wN (P:Program) (E:KE) (rd:Option Nat) (Fn:Fence) (ops:Array Oper) (n:Nat) (order Es L:List Nat) (D:List DE) (B:List (List Nat)) (w0:zJ) (G0:Gh) (K:KFr→KH→Prop) (ab:Nat→Nat) (listed:Array Bool) (rest seen:List Nat) (F:KFr) (st:KH) (G:Gh) (w:World) (a:Act):Prop where
 size:listed.size=ops.size
 split:order=seen.reverse++rest
 doneSeen:∀i,Dn listed i→i∈seen∨i∈L∨i∈Di D
 effDone:∀i∈seen,i∈Es∨i∈L→Dn listed i
 closed:yJ ops listed
 inv:∀j∈seen,¬Dn listed j→j∉Di D→xn P E.ng rd ops j F st
 invD:∀e∈D,e.i∈seen→∃v,DOk E ops F.l e v∧∀d,zd ops e.i=some d→zN F.l d=pL v
 dv:∀e∈D,Dn listed e.i→∃v,DOk E ops F.l e v∧∀d,zd ops e.i=some d→DV G (ab e.p) v (a.tmps.getD d undef)
 pbs:∀e∈D,e.p∈seen→¬Dn listed e.i→PS E ops F.l st G a (ab e.p) e.p
 nx:D≠ []→st.next≤NV
 ad:kD3 P E rd ops Es L D B rest seen F st K
 rel:KRel w0 G st w
 defers:KDs G F.d a.defers
 tmps:a.tmps.size=F.n
 ahead:∀j∈L,Dn listed j→j∉seen→XT E ops w0 F st G w a (ab j) j
 inj:∀i∈L,∀j∈L,Dn listed i→Dn listed j→i∉seen→j∉seen→ab i=ab j→i=j
 slot:∀t,(∀j∈seen,¬Dn listed j→zd ops j≠some t)→(∀j∈L,Dn listed j→j∉seen→zd ops j≠some t)→(∀j∈Di D,Dn listed j→j∉seen→zd ops j≠some t)→KR G (zN F.l t) (a.tmps.getD t undef)
 n:F.n=n
 ext:G0.le G
 gl:Glob P G
 rd:RdR G rd Fn
theorem wG.DiE (c:wG ops n order Es L D B) {i:Nat} (h:i∈Di D):i∉Es∧i∉L∧i<ops.size:=by
 obtain⟨e,he,rfl⟩:=vO.1 h
 obtain⟨q1,q2,q3,_⟩:=c.dE e he
 exact⟨q2,q3,q1⟩
theorem xS {F:KFr} {i t:Nat} {v:KV} (hn:∀d,zd ops i=some d→d<F.n) (hne:zd ops i≠some t):zN F.l t=zN (F.put (zd ops i) v).l t:=by
 cases hd:zd ops i with
 |none=>rfl
 | some d=>
  rw [xb (hn d hd),if_neg]
  rintro rfl
  exact hne hd
theorem wN.outN {Fn:Fence} {w0:zJ} {G0:Gh} {K:KFr→KH→Prop} {ab:Nat→Nat} {listed:Array Bool} {rest seen:List Nat} {F:KFr} {st:KH} {G:Gh} {w:World} {a:Act} (c:wG ops n order Es L D B) (h:wN P E rd Fn ops n order Es L D B w0 G0 K ab listed rest seen F st G w a)
  {i:Nat} (hil:i<ops.size) (hns:i∉seen):∀e∈D,(e.i∈seen∨Dn listed e.i)→∀t,VN ops e t→zd ops i≠some t:=by
 intro e he hs t ht hd
 obtain⟨q1,q2,q3⟩:=c.dr e he t ht i hil hd
 rcases hs with hs|hs
 ·exact hns (c.seen h.split hs i q3)
 ·rcases h.doneSeen i (c.dn h.closed (c.dE e he).1 hs i q3)with q|q|q
  ·exact hns q
  ·exact q1 q
  ·exact q2 q
theorem wN.invD_put {Fn:Fence} {w0:zJ} {G0:Gh} {K:KFr→KH→Prop} {ab:Nat→Nat} {listed:Array Bool} {rest seen:List Nat} {F:KFr} {st:KH} {G:Gh} {w:World} {a:Act} (c:wG ops n order Es L D B) (h:wN P E rd Fn ops n order Es L D B w0 G0 K ab listed rest seen F st G w a)
  {i:Nat} {v:KV} (hil:i<ops.size) (hns:i∉seen):∀e∈D,e.i∈seen→∃u,DOk E ops (F.put (zd ops i) v).l e u∧∀d,zd ops e.i=some d→zN (F.put (zd ops i) v).l d=pL u:=by
 intro e he hs
 have hn:∀d,zd ops i=some d→d<F.n:=fun d hd=>by rw [h.n]; exact c.dlt i hil d hd
 obtain⟨u,q1,q2⟩:=h.invD e he hs
 refine⟨u,q1.congr fun t ht=>xS hn (h.outN c hil hns e he (.inl hs) t ht),fun d hd=> ?_⟩
 rw [←q2 d hd]
 exact(xS hn (c.uniq e.i i (c.dE e he).1 hil (fun q=>hns (q▸hs)) d hd)).symm
theorem wN.dv_put {Fn:Fence} {w0:zJ} {G0:Gh} {K:KFr→KH→Prop} {ab:Nat→Nat} {listed:Array Bool} {rest seen:List Nat} {F:KFr} {st:KH} {G:Gh} {w:World} {a:Act} (c:wG ops n order Es L D B) (h:wN P E rd Fn ops n order Es L D B w0 G0 K ab listed rest seen F st G w a)
  {i:Nat} {v:KV} (hil:i<ops.size) (hns:i∉seen):∀e∈D,Dn listed e.i→∃u,DOk E ops (F.put (zd ops i) v).l e u∧∀d,zd ops e.i=some d→DV G (ab e.p) u (a.tmps.getD d undef):=by
 intro e he hs
 obtain⟨u,q1,q2⟩:=h.dv e he hs
 exact⟨u,q1.congr fun t ht=>xS (fun d hd=>by rw [h.n]; exact c.dlt i hil d hd) (h.outN c hil hns e he (.inr hs) t ht),q2⟩
theorem wN.norm {Fn:Fence} {w0:zJ} {G0:Gh} {K:KFr→KH→Prop} {ab:Nat→Nat} {listed:Array Bool} {w:World} {a:Act} (c:wG ops n order Es L D B):∀(rest seen:List Nat) (F:KFr) (st:KH) (G:Gh),wN P E rd Fn ops n order Es L D B w0 G0 K ab listed rest seen F st G w a →
  ∃rest' seen' F' st' G',wN P E rd Fn ops n order Es L D B w0 G0 K ab listed rest' seen' F' st' G' w a∧∀e r,rest'=e::r→e∈Es∨(e∈L∧¬Dn listed e)
 | [],seen,F,st,G,h=>⟨[],seen,F,st,G,h,by simp⟩
 | i :: rest,seen,F,st,G,h=>by
  have hs:=h.split
  have him:i∈order:=by rw [hs]; simp
  have hil:=c.lt i him
  have hns:i∉seen:=c.not_seen hs (by simp)
  by_cases hE:i∈Es
  ·exact⟨i::rest,seen,F,st,G,h,fun e r he=>by injection he with he _; subst he; exact .inl hE⟩
  by_cases hL:i∈L
  ·by_cases hd:Dn listed i
   ·
    have had:=h.ad
    simp only [kD3]at had
    rw [if_neg (by simpa using hE),if_pos (by simpa using hL)]at had
    obtain⟨o,tm,cs,ho,hk,hroom,hst,hnv,had⟩:=had
    obtain⟨o',tm',cs',C,el,room,ho',hk',hb,hsz,hf,hr1,hr2,hr3,hr4⟩:=h.ahead i hL hd hns
    rw [ho]at ho'; injection ho' with ho'; subst ho'
    rw [hk]at hk'; injection hk' with hk'; injection hk' with hk1 hk2; subst hk1 hk2
    have hdst:zd ops i=o.dst:=by simp [zd,ho]
    have hn':st.next+1<65000:=by simpa [yw,zL] using hroom
    have hle:=Gh.new_le G h.rel.fresh (ab i,0) room
    have hrel:=h.rel.adopt hn' (room:=room) (o:= .cells false cs) hb (.inl hsz) (.inr hsz) hf (.cells hr1 (by omega) (fun _=> .zero _) (fun j v x q1 q2=>(hr3 j v x q1 (by simpa using q2)).le hle))
    refine wN.norm c rest (i::seen) (F.put o.dst (tm.at st.next)) (st.push (.cells false cs)) _ {
     size:=h.size,split:=by rw [hs]; simp,doneSeen:=fun k hk=>(h.doneSeen k hk).imp (List.mem_cons_of_mem _) id,effDone:= ?_,closed:=h.closed,inv:= ?_,ad:=had,rel:=hrel,defers:=by rw [ZS]; exact h.defers.le hle,tmps:=by rw [ui]; exact h.tmps,ahead:= ?_,inj:= ?_,slot:= ?_,n:=by rw [ui]; exact h.n,ext:=h.ext.trans hle,gl:=h.gl.le hle,rd:=h.rd.le hle,
     invD:=fun e he hs=>(by
      rw [←hdst]
      rcases List.mem_cons.1 hs with q|q
      ·exact absurd hL (q▸(c.dE e he).2.2.1)
      ·exact h.invD_put c hil hns e he q),
     dv:=fun e he hde=>(by
      rw [←hdst]
      obtain⟨u,q1,q2⟩:=h.dv_put (v:=tm.at st.next) c hil hns e he hde
      exact⟨u,q1,fun d hd'=>(q2 d hd').le hle⟩),
     pbs :=fun e he hp hnd'=>(by
      have hn:∀d,zd ops i=some d→d<F.n:=fun d hd=>by rw [h.n]; exact c.dlt i hil d hd
      rw [←hdst]
      rcases List.mem_cons.1 hp with hp|hp
      ·refine ⟨o,tm,cs,st.next,by rw [hp]; exact ho, ?_, ?_,by rw [hp]; exact Gh.new_at _ _ _ _, ?_⟩
       ·rw [←hk]
        exact uc o.op (uh fun t ht=>(xS hn (((c.late i hL hil).2.2 t (wc ho ht)).1 i hL)).symm)
       ·rw [xJ st h.rel.top,if_pos rfl]
       ·intro d hd' G' id q1 q2
        rw [hp]at q1
        exact hr4 d hd' G' id q1 (q2.trans (Gh.new_room _ _ _ _))
      ·refine(h.pbs e he hp hnd').turn (fun t ht=>xS hn (((c.late e.p (c.dE e he).2.2.2.1 (c.dE e he).2.2.2.2.1).2.2 t ht).1 i hL)) (fun id x e1=> ?_) hle (fun _ _=>rfl)
       rw [xJ st h.rel.top,if_neg (fun q=>by have:=h.rel.id_lt e1; omega)]
       exact e1),
     nx:=hnv}
    ·intro j hj he
     rcases List.mem_cons.1 hj with rfl|hj
     ·exact hd
     ·exact h.effDone j hj he
    ·intro j hj hnd hjD
     rcases List.mem_cons.1 hj with rfl|hj
     ·exact absurd hd hnd
     ·exact j5 hst j hj (fun he=>by
       rcases List.mem_append.1 he with he|he
       ·exact hnd (h.effDone j hj (List.mem_append.1 he))
       ·exact hjD he) (fun hb=>hnd (c.dn h.closed hil hd j hb))
    ·intro j hj hjd hjn
     simp only [List.mem_cons,not_or]at hjn
     refine(h.ahead j hj hjd hjn.2).turn ?_ hle rfl ?_ (fun _ _=>rfl)
     ·intro t ht
      cases hd':o.dst with
      |none=>rfl
      | some d=>
       have hdn:d<F.n:=by rw [h.n]; exact c.dlt i hil d (by rw [hdst,hd'])
       rw [xb hdn,if_neg]
       rintro rfl
       have hjl:j<ops.size:=by
        obtain⟨o',_,_,_,_,_,q,_⟩:=h.ahead j hj hjd hjn.2
        exact(Array.getElem?_eq_some_iff.1 q).1
       exact((c.late j hj hjl).2.2 _ ht).1 i hL (by rw [hdst,hd'])
     ·obtain ⟨_,_,_,_,_,_,_,_,_,_,hfj,_⟩:=h.ahead j hj hjd hjn.2
      intro id x k e1 e2
      rw [xJ st h.rel.top]at e1
      by_cases hid:id=st.next
      ·subst hid
       rw [Gh.new_at]at e2
       injection e2 with e2; injection e2 with e2 _
       exact hjn.1 (h.inj i hL j hj hd hjd hns hjn.2 e2).symm
      ·rw [if_neg hid]at e1
       have e3:G.at_ id=some (ab j,k):=by
        have:(G.new st.next (ab i,0) room).at_ id=G.at_ id:=if_neg hid
        rw [←this]; exact e2
       exact hfj id x k e1 e3
    ·intro x hx y hy hxd hyd hxn hyn
     simp only [List.mem_cons,not_or]at hxn hyn
     exact h.inj x hx y hy hxd hyd hxn.2 hyn.2
    ·intro t ht1 ht2 ht3
     have old:o.dst≠some t→KR G (zN F.l t) (a.tmps.getD t undef):=fun hne=>h.slot t (fun j hj=>ht1 j (List.mem_cons_of_mem _ hj)) (fun j hj hjd hjn=>by
      by_cases hji:j=i
      ·subst hji; rw [hdst]; exact hne
      ·exact ht2 j hj hjd (by simp [hji,hjn])) (fun j hj hjd hjn=>ht3 j hj hjd (by
      simp only [List.mem_cons,not_or]
      exact⟨fun q=>(c.DiE hj).2.1 (q▸hL),hjn⟩))
     cases hd':o.dst with
     |none=>exact(old (by rw [hd']; simp)).le hle
     | some d=>
      have hdn:d<F.n:=by rw [h.n]; exact c.dlt i hil d (by rw [hdst,hd'])
      rw [xb hdn]
      by_cases htd:t=d
      ·subst htd
       rw [if_pos rfl]
       exact hr4 t hd' _ _ (Gh.new_at _ _ _ _) (Gh.new_room _ _ _ _)
      ·rw [if_neg htd]
       exact(old (by rw [hd']; intro q; injection q with q; exact htd q.symm)).le hle
   ·exact⟨i::rest,seen,F,st,G,h,fun e r he=>by injection he with he _; subst he; exact .inr ⟨hL,hd⟩⟩
  by_cases hDi:i∈Di D
  ·
   have had:=h.ad
   simp only [kD3]at had
   rw [if_neg (by simpa using hE),if_neg (by simpa using hL),if_pos (by simpa using hDi)]at had
   obtain⟨e,v,he,hei,hok,had⟩:=had
   have hn:∀d,zd ops i=some d→d<F.n:=fun d hd=>by rw [h.n]; exact c.dlt i hil d hd
   have hDr:∀x∈D,∀t,VN ops x t→zd ops i≠some t:=fun x hx t ht hd=>(c.dr x hx t ht i hil hd).2.1 hDi
   refine wN.norm c rest (i::seen) (F.put (zd ops i) (pL v)) st G {
    size:=h.size,split:=by rw [hs]; simp,doneSeen:=fun k hk=>(h.doneSeen k hk).imp (List.mem_cons_of_mem _) id,effDone:= ?_,closed:=h.closed,inv:= ?_,ad:=had,rel:=h.rel,defers:=by rw [ZS]; exact h.defers,tmps:=by rw [ui]; exact h.tmps,ahead:= ?_,inj:= ?_,slot:= ?_,n:=by rw [ui]; exact h.n,ext:=h.ext,gl:=h.gl,rd:=h.rd,
    invD:=fun x hx hs'=>(by
     rcases List.mem_cons.1 hs' with q|q
     ·have hxe:x=e:=c.du x hx e he (q.trans hei.symm)
      subst hxe
      refine⟨v,hok.congr fun t ht=>xS hn (hDr x hx t ht),fun d hd=> ?_⟩
      rw [hei]at hd
      rw [hd,xb (hn d hd),if_pos rfl]
     ·exact h.invD_put c hil hns x hx q),
    dv:=fun x hx hde=>(by
     obtain⟨u,q1,q2⟩:=h.dv x hx hde
     exact⟨u,q1.congr fun t ht=>xS hn (hDr x hx t ht),q2⟩),
    pbs:=fun x hx hp hnd'=>(by
     rcases List.mem_cons.1 hp with hp|hp
     ·exact absurd (c.dE x hx).2.2.2.1 (hp▸hL)
     ·exact(h.pbs x hx hp hnd').turn (fun t ht=>xS hn (((c.late x.p (c.dE x hx).2.2.2.1 (c.dE x hx).2.2.2.2.1).2.2 t ht).2 i hDi)) (fun _ _ e1=>e1) (.refl _) (fun _ _=>rfl)),
    nx:=h.nx}
   ·intro j hj he'
    rcases List.mem_cons.1 hj with rfl|hj
    ·exact(he'.elim hE hL).elim
    ·exact h.effDone j hj he'
   ·intro j hj hjd hjD
    rcases List.mem_cons.1 hj with rfl|hj
    ·exact absurd hDi hjD
    ·have hh:=h.inv j hj hjd hjD
     have heq:∀t∈zo ops j,zN F.l t=zN (F.put (zd ops i) (pL v)).l t:=fun t ht=>xS hn (fun hd=>c.not_read hs hE hj hd ht)
     unfold xn at hh ⊢
     cases hdj:zd ops j with
     |none=>rw [hdj]at hh; obtain⟨u,hu⟩:=hh; exact⟨u,hu.congr heq⟩
     | some d=>
      rw [hdj]at hh
      simp only at hh ⊢
      have hjm:j∈order:=by rw [hs]; simp [hj]
      rw [←xS (t:=d) hn (c.uniq j i (c.lt j hjm) hil (fun q=>hns (q▸hj)) d hdj)]
      exact hh.congr heq
   ·intro j hj hjd hjn
    simp only [List.mem_cons,not_or]at hjn
    have hA:=h.ahead j hj hjd hjn.2
    obtain⟨_,_,_,_,_,_,q,_,_,_,hfj,_⟩:=id hA
    have hjl:j<ops.size:=(Array.getElem?_eq_some_iff.1 q).1
    exact hA.turn (fun t ht=>xS hn (((c.late j hj hjl).2.2 t ht).2 i hDi)) (.refl _) rfl hfj (fun _ _=>rfl)
   ·intro x hx y hy hxd hyd hxn hyn
    simp only [List.mem_cons,not_or]at hxn hyn
    exact h.inj x hx y hy hxd hyd hxn.2 hyn.2
   ·intro t ht1 ht2 ht3
    by_cases hdt:zd ops i=some t
    ·by_cases hd:Dn listed i
     ·obtain⟨u,q1,q2⟩:=h.dv e he (hei▸hd)
      have:=hok.uniq q1
      subst this
      rw [hdt,xb (hn t hdt),if_pos rfl]
      exact(q2 t (by rw [hei]; exact hdt)).kr
     ·exact absurd hdt (ht1 i (by simp) hd)
    ·rw [←xS hn hdt]
     exact h.slot t (fun j hj=>ht1 j (List.mem_cons_of_mem _ hj)) (fun j hj hjd hjn=>ht2 j hj hjd (by
      simp only [List.mem_cons,not_or]
      exact⟨fun q=>hL (q▸hj),hjn⟩)) (fun j hj hjd hjn=>by
      by_cases hji:j=i
      ·subst hji; exact hdt
      ·exact ht3 j hj hjd (by simp [hji,hjn]))
  ·
   have hnd:¬Dn listed i:=fun hd=>(h.doneSeen i hd).elim hns fun q=>q.elim hL hDi
   have had:=h.ad
   simp only [kD3]at had
   rw [if_neg (by simpa using hE),if_neg (by simpa using hL),if_neg (by simpa using hDi)]at had
   obtain⟨v,hv,had⟩:=had
   have hstill:xn P E.ng rd ops i (F.put (zd ops i) v) st:=by
    unfold xn
    cases hd:zd ops i with
    |none=>exact⟨v,by rw [hd]at *; exact hv⟩
    | some d=>
     have hdn:d<F.n:=by rw [h.n]; exact c.dlt i hil d hd
     simp only
     rw [xb hdn,if_pos rfl]
     refine hv.congr ?_
     intro t ht
     rw [xb hdn,if_neg]
     rintro rfl
     rcases c.reads i hil t ht i hil hd with h'|h'
     ·obtain⟨p,hp,he⟩:=List.getElem_of_mem him
      have hb:=c.before p hp i (by rw [he]; exact h')
      obtain⟨q,hq,hql,hqe⟩:=yq hb
      have:=(List.getElem_inj (h₀:=hql) (h₁:=hp) c.nodup).1 (hqe.trans he.symm)
      omega
     ·exact hE h'.1
   have keepF:∀j,(∀d,zd ops i=some d→d∉zo ops j)→∀t∈zo ops j,zN F.l t=zN (F.put (zd ops i) v).l t:=by
    intro j hj t ht
    cases hd:zd ops i with
    |none=>rfl
    | some d=>
     have hdn:d<F.n:=by rw [h.n]; exact c.dlt i hil d hd
     rw [xb hdn,if_neg]
     rintro rfl
     exact hj t hd ht
   refine wN.norm c rest (i::seen) (F.put (zd ops i) v) st G {
    size:=h.size,split:=by rw [hs]; simp,doneSeen:=fun k hk=>(h.doneSeen k hk).imp (List.mem_cons_of_mem _) id,effDone:= ?_,closed:=h.closed,inv:= ?_,ad:=had,rel:=h.rel,defers:=by rw [ZS]; exact h.defers,tmps:=by rw [ui]; exact h.tmps,ahead:= ?_,inj:= ?_,slot:= ?_,n:=by rw [ui]; exact h.n,ext:=h.ext,gl:=h.gl,rd:=h.rd,
    invD:=fun x hx hs'=>(by
     rcases List.mem_cons.1 hs' with q|q
     ·exact absurd (vO.2 ⟨x,hx,q⟩) hDi
     ·exact h.invD_put c hil hns x hx q),
    dv:=h.dv_put c hil hns,
    pbs:=fun x hx hp hnd'=>(by
     rcases List.mem_cons.1 hp with hp|hp
     ·exact absurd (c.dE x hx).2.2.2.1 (hp▸hL)
     ·refine(h.pbs x hx hp hnd').turn (fun t ht=>xS (fun d hd=>by rw [h.n]; exact c.dlt i hil d hd) (fun hd=> ?_)) (fun _ _ e1=>e1) (.refl _) (fun _ _=>rfl)
      exact c.not_read hs hE hp hd ht),
    nx:=h.nx}
   ·intro j hj he
    rcases List.mem_cons.1 hj with rfl|hj
    ·exact(he.elim hE hL).elim
    ·exact h.effDone j hj he
   ·intro j hj hjd hjD
    rcases List.mem_cons.1 hj with rfl|hj
    ·exact hstill
    ·have hh:=h.inv j hj hjd hjD
     have heq:=keepF j fun d hd=>c.not_read hs hE hj hd
     unfold xn at hh ⊢
     cases hdj:zd ops j with
     |none=>rw [hdj]at hh; obtain⟨u,hu⟩:=hh; exact⟨u,hu.congr heq⟩
     | some e=>
      rw [hdj]at hh
      simp only at hh ⊢
      have hjm:j∈order:=by rw [hs]; simp [hj]
      have hsame:zN (F.put (zd ops i) v).l e=zN F.l e:=by
       cases hd:zd ops i with
       |none=>rfl
       | some d=>
        have hdn:d<F.n:=by rw [h.n]; exact c.dlt i hil d hd
        rw [xb hdn,if_neg]
        rintro rfl
        exact c.uniq i j hil (c.lt j hjm) (fun q=>hns (q▸hj)) e hd hdj
      rw [hsame]
      exact hh.congr heq
   ·intro j hj hjd hjn
    simp only [List.mem_cons,not_or]at hjn
    have hA:=h.ahead j hj hjd hjn.2
    obtain⟨_,_,_,_,_,_,q,_,_,_,hfj,_⟩:=id hA
    have hjl:j<ops.size:=(Array.getElem?_eq_some_iff.1 q).1
    refine hA.turn (keepF j fun d hd hr=> ?_) (.refl _) rfl hfj (fun _ _=>rfl)
    rcases c.reads j hjl d hr i hil hd with h1|h1
    ·exact hnd (c.dn h.closed hjl hjd i h1)
    ·exact hE h1.1
   ·intro x hx y hy hxd hyd hxn hyn
    simp only [List.mem_cons,not_or]at hxn hyn
    exact h.inj x hx y hy hxd hyd hxn.2 hyn.2
   ·intro t ht1 ht2 ht3
    have hdi:=ht1 i (by simp) hnd
    have hsame:zN (F.put (zd ops i) v).l t=zN F.l t:=by
     cases hd:zd ops i with
     |none=>rfl
     | some d=>
      have hdn:d<F.n:=by rw [h.n]; exact c.dlt i hil d hd
      rw [xb hdn,if_neg]
      rintro rfl
      exact hdi hd
    rw [hsame]
    exact h.slot t (fun j hj=>ht1 j (List.mem_cons_of_mem _ hj)) (fun j hj hjd hjn=>ht2 j hj hjd (by
     simp only [List.mem_cons,not_or]
     exact⟨fun q=>hL (q▸hj),hjn⟩)) (fun j hj hjd hjn=>ht3 j hj hjd (by
     simp only [List.mem_cons,not_or]
     exact⟨fun q=>hDi (q▸hj),hjn⟩))
end
section
variable {P:Program} {E:KE} {rd:Option Nat} {ops:Array Oper} {n:Nat} {order Es L:List Nat} {D:List DE} {B:List (List Nat)}
theorem UH {K:KFr→KH→Prop} {j:Nat} (hE:j∉Es) (hL:j∈L):∀(rest seen:List Nat) (F:KFr) (st:KH),kD3 P E rd ops Es L D B rest seen F st K→j∈rest→(∀i∈rest,i≠j→j∉B.getD i []→i<ops.size) →
  (∀(pre post:List Nat),rest=pre++j::post→∀i∈pre,∀d,zd ops i=some d→d∉zo ops j)→F.n=n→(∀i∈rest,∀d,zd ops i=some d→d<n) →
  ∃o tm cs,ops[j]? =some o∧kal E F.l o.op=some (tm,cs)
 | [],seen,F,st,_,hj,_,_,_,_=>by cases hj
 | i ::rest,seen,F,st,had,hj,hlt,hpre,hn,hdn=>by
  by_cases hij:i=j
  ·subst hij
   simp only [kD3]at had
   rw [if_neg (by simpa using hE),if_pos (by simpa using hL)]at had
   obtain⟨o,tm,cs,ho,hk,_⟩:=had
   exact⟨o,tm,cs,ho,hk⟩
  ·have hj':j∈rest:=by
    rcases List.mem_cons.1 hj with h|h
    ·exact absurd h.symm hij
    ·exact h
   have hnr:∀d,zd ops i=some d→d∉zo ops j:=by
    obtain⟨s,t,e⟩:=List.append_of_mem hj'
    exact hpre (i::s) t (by rw [e]; rfl) i (by simp)
   have hpre':∀(pre post:List Nat),rest=pre++j::post→∀i∈pre,∀d,zd ops i=some d→d∉zo ops j:=fun pre post e i' hi'=>hpre (i::pre) post (by rw [e]; rfl) i' (List.mem_cons_of_mem _ hi')
   have back:∀(dst:Option Tmp) (v:KV),dst=zd ops i→(∃o tm cs,ops[j]? =some o∧kal E (F.put dst v).l o.op=some (tm,cs))→∃o tm cs,ops[j]? =some o∧kal E F.l o.op=some (tm,cs):=by
    intro dst v hd ⟨o,tm,cs,ho,hk⟩
    refine⟨o,tm,cs,ho, ?_⟩
    rw [←hk]
    refine uc o.op (wK fun t ht=> ?_)
    cases hdd:dst with
    |none=>rfl
    | some d=>
     rw [xb (by rw [hn]; exact hdn i (by simp) d (by rw [←hd,hdd])),if_neg]
     rintro rfl
     exact hnr t (by rw [←hd,hdd]) (by unfold zo; rw [ho]; simp [ht])
   have again:∀(dst:Option Tmp) (v:KV) (st':KH),dst=zd ops i→kD3 P E rd ops Es L D B rest (i::seen) (F.put dst v) st' K→∃o tm cs,ops[j]? =some o∧kal E F.l o.op=some (tm,cs):=fun dst v st' hd k=>
    back dst v hd (UH hE hL rest (i::seen) (F.put dst v) st' k hj' (fun x hx=>hlt x (List.mem_cons_of_mem _ hx)) hpre' (by rw [ui]; exact hn) (fun x hx=>hdn x (List.mem_cons_of_mem _ hx)))
   simp only [kD3]at had
   split at had
   ·unfold W7 at had
    cases ho:ops[i]? with
    |none=>rw [ho]at had; exact had.elim
    | some o=>
     have hd:o.dst=zd ops i:=by simp [zd,ho]
     rw [ho]at had
     simp only at had
     split at had
     ·obtain⟨v,h1,_,_,_,k⟩:=had; exact again _ v h1 hd k
     ·obtain⟨_,_,k⟩:=had; exact again _ _ _ hd k
     ·exact had.elim
   ·split at had
    ·obtain⟨o,tm,cs,ho,_,_,_,_,k⟩:=had
     exact again _ _ _ (by simp [zd,ho]) k
    ·split at had
     ·obtain⟨e,v,_,_,_,k⟩:=had
      exact again _ (pL v) st rfl k
     ·obtain⟨v,_,k⟩:=had
      exact again _ v st rfl k
theorem Y5 {K:KFr→KH→Prop} {j:Nat} (hE:j∉Es) (hL:j∉L) (hD:j∈Di D):∀(rest seen:List Nat) (F:KFr) (st:KH),kD3 P E rd ops Es L D B rest seen F st K→j∈rest→(∀x∈rest,∀e∈D,e.i=j→∀t,VN ops e t→zd ops x≠some t) →
  F.n=n→(∀i∈rest,∀d,zd ops i=some d→d<n)→∃e v,e∈D∧e.i=j∧DOk E ops F.l e v
 | [],seen,F,st,_,hj,_,_,_=>by cases hj
 | i ::rest,seen,F,st,had,hj,hout,hn,hdn=>by
  by_cases hij:i=j
  ·subst hij
   simp only [kD3]at had
   rw [if_neg (by simpa using hE),if_neg (by simpa using hL),if_pos (by simpa using hD)]at had
   obtain⟨e,v,he,hei,hok,_⟩:=had
   exact⟨e,v,he,hei,hok⟩
  ·have hj':j∈rest:=by
    rcases List.mem_cons.1 hj with h|h
    ·exact absurd h.symm hij
    ·exact h
   have again:∀(dst:Option Tmp) (v:KV) (st':KH),dst=zd ops i→kD3 P E rd ops Es L D B rest (i::seen) (F.put dst v) st' K→∃e v,e∈D∧e.i=j∧DOk E ops F.l e v:=fun dst v st' hd k=>by
    obtain⟨e,u,he,hei,hok⟩:=Y5 hE hL hD rest (i::seen) (F.put dst v) st' k hj' (fun x hx=>hout x (List.mem_cons_of_mem _ hx)) (by rw [ui]; exact hn) (fun x hx=>hdn x (List.mem_cons_of_mem _ hx))
    refine⟨e,u,he,hei,hok.congr fun t ht=> ?_⟩
    rw [hd]
    exact(xS (fun d hd'=>by rw [hn]; exact hdn i (by simp) d hd') (hout i (by simp) e he hei t ht)).symm
   simp only [kD3]at had
   split at had
   ·unfold W7 at had
    cases ho:ops[i]? with
    |none=>rw [ho]at had; exact had.elim
    | some o=>
     have hd:o.dst=zd ops i:=by simp [zd,ho]
     rw [ho]at had
     simp only at had
     split at had
     ·obtain⟨v,h1,_,_,_,k⟩:=had; exact again _ v h1 hd k
     ·obtain⟨_,_,k⟩:=had; exact again _ _ _ hd k
     ·exact had.elim
   ·split at had
    ·obtain⟨o,tm,cs,ho,_,_,_,_,k⟩:=had
     exact again _ _ _ (by simp [zd,ho]) k
    ·split at had
     ·obtain⟨e,v,_,_,_,k⟩:=had
      exact again _ (pL v) st rfl k
     ·obtain⟨v,_,k⟩:=had
      exact again _ v st rfl k
def uf (ops:Array Oper) (L Ds:List Nat) (listed:Array Bool) (seen:List Nat) (F:KFr):KFr:=
 {F with l:=F.l.filter fun x=>(seen.all fun j=>listed.getD j false|| !(zd ops j==some x))&&(L.all fun j=> !(listed.getD j false)||seen.contains j|| !(zd ops j==some x))&&(Ds.all fun j=> !(listed.getD j false)||seen.contains j|| !(zd ops j==some x))}
theorem Z1 {Ds:List Nat} {listed:Array Bool} {seen:List Nat} {F:KFr} {t:Nat} (h:∀j∈seen,¬Dn listed j→zd ops j≠some t) (h2:∀j∈L,Dn listed j→j∉seen→zd ops j≠some t) (h3:∀j∈Ds,Dn listed j→j∉seen→zd ops j≠some t):zN (uf ops L Ds listed seen F).l t=zN F.l t:=by
 simp only [uf,yW]
 rw [if_pos]
 have aux:∀ {X:List Nat},(∀j∈X,Dn listed j→j∉seen→zd ops j≠some t)→∀j∈X,(!(listed.getD j false)||seen.contains j|| !(zd ops j==some t))=true:=fun hX j hj=>by
  by_cases hd:Dn listed j
  ·by_cases hs:j∈seen
   ·simp [hs]
   ·have:=hX j hj hd hs; simp [this]
  ·simp only [Dn,Bool.not_eq_true]at hd; simp [hd]
 rw [iF,iF,List.all_eq_true,List.all_eq_true,List.all_eq_true]
 refine⟨⟨fun j hj=> ?_,aux h2⟩,aux h3⟩
 by_cases hd:Dn listed j
 ·simp only [Dn]at hd; simp [hd]
 ·have:=h j hj hd; simp [this]
theorem wN.mask {Fn:Fence} {w0:zJ} {G0:Gh} {K:KFr→KH→Prop} {ab:Nat→Nat} {listed:Array Bool} {rest seen:List Nat} {F:KFr} {st:KH} {G:Gh} {w:World} {a:Act}
  (h:wN P E rd Fn ops n order Es L D B w0 G0 K ab listed rest seen F st G w a):FrR G (uf ops L (Di D) listed seen F) a:=by
 refine⟨⟨h.tmps,fun t=> ?_⟩,h.defers⟩
 by_cases ht:∀j∈seen,¬Dn listed j→zd ops j≠some t
 ·by_cases ht2:∀j∈L,Dn listed j→j∉seen→zd ops j≠some t
  ·by_cases ht3:∀j∈Di D,Dn listed j→j∉seen→zd ops j≠some t
   ·rw [Z1 ht ht2 ht3]; exact h.slot t ht ht2 ht3
   ·have:zN (uf ops L (Di D) listed seen F).l t= .junk:=by
     simp only [uf,yW]
     rw [if_neg]
     rw [iF,iF,List.all_eq_true,List.all_eq_true,List.all_eq_true]
     intro hall
     apply ht3
     intro j hj hd hs he
     have:=hall.2 j hj
     simp only [Dn]at hd
     simp [hd,hs,he]at this
    rw [this]; exact .junk _
  ·have:zN (uf ops L (Di D) listed seen F).l t= .junk:=by
    simp only [uf,yW]
    rw [if_neg]
    rw [iF,iF,List.all_eq_true,List.all_eq_true,List.all_eq_true]
    intro hall
    apply ht2
    intro j hj hd hs he
    have:=hall.1.2 j hj
    simp only [Dn]at hd
    simp [hd,hs,he]at this
   rw [this]; exact .junk _
 ·have:zN (uf ops L (Di D) listed seen F).l t= .junk:=by
   simp only [uf,yW]
   rw [if_neg]
   rw [iF,iF,List.all_eq_true,List.all_eq_true,List.all_eq_true]
   intro hall
   apply ht
   intro j hj hd he
   have:=hall.1.1 j hj
   simp only [Dn,Bool.not_eq_true]at hd
   simp [hd,he]at this
  rw [this]; exact .junk _
open Classical in
theorem lF (hE:E.Ok P) (c:wG ops n order Es L D B) (hLs:∀i∈L,i<ops.size) {Fn:Fence} {nn:Nat} {w0:zJ} {G0:Gh} {K:KFr→KH→Prop} {Q:Exit→Act→World→Prop}
  (hK:∀fr' st' G' a' w',K fr' st'→KRel w0 G' st' w'→FrR G' fr' a'→G0.le G'→Q .normal a' w'):
  ∀ (fuel:Nat) (ab:Nat→Nat) (listed:Array Bool) (rest seen:List Nat) (F:KFr) (st:KH) (G:Gh) (w:World) (a:Act),
   wN P E rd Fn ops n order Es L D B w0 G0 K ab listed rest seen F st G w a→(∀e r,rest=e::r→e∈Es∨(e∈L∧¬Dn listed e))→((List.range ops.size).filter fun i=> !(listed.getD i false)).length≤fuel→wpAnyIn Fn nn P .any ops Q fuel listed a w:=by
 have ends : ∀ (ab : Nat → Nat) (listed : Array Bool) (rest seen : List Nat) (F : KFr) (st : KH) (G : Gh) (w : World) (a : Act), wN P E rd Fn ops n order Es L D B w0 G0 K ab listed rest seen F st G w a → (∀ e r, rest = e :: r → e ∈ Es ∨ (e ∈ L ∧ ¬ Dn listed e)) → (∀ i, i < ops.size → Dn listed i) → Q .normal a w := by
  intro ab listed rest seen F st G w a h hhd hall
  have hrest:rest= []:=by
   cases hr:rest with
   |nil=>rfl
   | cons e r=>
    exfalso
    have hs:order=seen.reverse++e::r:=by rw [←hr]; exact h.split
    have hem:e∈order:=by rw [hs]; simp
    have hde:=hall e (c.lt e hem)
    rcases hhd e r hr with he|⟨_,he⟩
    ·rcases h.doneSeen e hde with h1|h1|h1
     ·exact c.not_seen hs (by simp) h1
     ·exact(c.late e h1 (hLs e h1)).1 he
     ·exact(c.DiE h1).1 he
    ·exact he hde
  have had:=h.ad
  rw [hrest]at had
  simp only [kD3]at had
  have hsp:=h.split
  rw [hrest,List.append_nil]at hsp
  refine hK F st G a w had h.rel ⟨⟨h.tmps,fun t=>h.slot t ?_ ?_ ?_⟩,h.defers⟩ h.ext
  ·intro j hj hd
   exact absurd (hall j (c.lt j (by rw [hsp]; simp [hj]))) hd
  ·intro j hj _ hn
   have:j∈order:=c.all j (hLs j hj)
   rw [hsp]at this
   exact absurd (List.mem_reverse.1 this) hn
  ·intro j hj _ hn
   have:j∈order:=c.all j (c.DiE hj).2.2
   rw [hsp]at this
   exact absurd (List.mem_reverse.1 this) hn
 have noReady:∀(listed:Array Bool),listed.size=ops.size→Region.ready .any ops listed= []→∀i,i<ops.size→Dn listed i:=by
  intro listed hsize hr
  have key:∀p (hp:p<order.length),Dn listed order[p]:=by
   intro p
   induction p using Nat.strongRecOn with
   | _ p ih=>
    intro hp
    have hlt:=c.lt _ (List.getElem_mem hp)
    by_cases hd:Dn listed order[p]
    ·exact hd
    ·exfalso
     have:order[p]∈Region.ready .any ops listed:=by
      rw [mem_ready]
      refine⟨?_,ops[order[p]],by simp [hlt], ?_⟩
      ·have hsz:order[p]<listed.size:=by rw [hsize]; exact hlt
       simp only [Dn]at hd
       simp [Array.getD,hsz]at hd ⊢
       exact hd
      ·intro e he hb
       have hk:e.on∈dp ops order[p]:=by
        unfold dp
        rw [show ops[order[p]]? =some ops[order[p]]by simp [hlt]]
        exact List.mem_map.2 ⟨e,List.mem_filter.2 ⟨by simpa using he,hb⟩,rfl⟩
       obtain⟨q,hq,hql,hqe⟩:=yq (c.topo p hp _ hk)
       rw [←hqe]; exact ih q hq hql
     rw [hr]at this; cases this
  intro i hi
  obtain⟨p,hp,he⟩:=List.getElem_of_mem (c.all i hi)
  rw [←he]; exact key p hp
 intro fuel
 induction fuel with
 | zero=>
  intro ab listed rest seen F st G w a h hhd hf
  have hall:∀i,i<ops.size→Dn listed i:=by
   intro i hi
   have:((List.range ops.size).filter fun i=> !(listed.getD i false))= []:=List.eq_nil_of_length_eq_zero (Nat.le_zero.1 hf)
   rw [List.filter_eq_nil_iff]at this
   have:=this i (by simpa using hi)
   simpa [Dn] using this
  refine⟨?_,ends ab listed rest seen F st G w a h hhd hall⟩
  cases hr:Region.ready .any ops listed with
  |nil=>rfl
  | cons i r=>
   exfalso
   have hm:i∈Region.ready .any ops listed:=by rw [hr]; simp
   rw [mem_ready]at hm
   obtain⟨h1,o,ho,_⟩:=hm
   have hi:i<ops.size:=(Array.getElem?_eq_some_iff.1 ho).1
   have h2:=hall i hi
   have hsz:i<listed.size:=by rw [h.size]; exact hi
   simp only [Dn]at h2
   simp [Array.getD,hsz]at h1 h2
   rw [h1]at h2; cases h2
 | succ fuel ih=>
  intro ab listed rest seen F st G w a h hhd hf
  refine⟨fun hr=>ends ab listed rest seen F st G w a h hhd (noReady listed h.size hr), ?_⟩
  intro i hir
  rw [mem_ready]at hir
  obtain⟨hun,o,ho,hpre⟩:=hir
  have hi:i<ops.size:=(Array.getElem?_eq_some_iff.1 ho).1
  have hsz:i<listed.size:=by rw [h.size]; exact hi
  have hnd:¬Dn listed i:=by
   simp only [Dn]; simp [Array.getD,hsz]at hun ⊢; exact hun
  have hdp:∀k∈dp ops i,Dn listed k:=by
   intro k hk
   unfold dp at hk
   rw [ho]at hk
   obtain⟨e,he,rfl⟩:=List.mem_map.1 hk
   obtain⟨he1,he2⟩:=List.mem_filter.1 he
   exact hpre e (by simpa using he1) he2
  have hB:=c.ready h.closed hi hdp
  have hfuel:((List.range ops.size).filter fun k=> !((listed.setIfInBounds i true).getD k false)).length≤fuel:=by
   have:=Abs.filter_lt (p:=fun k=> !(listed.getD k false)) (q:=fun k=> !((listed.setIfInBounds i true).getD k false)) (List.range ops.size) (by
    intro k _ hk
    by_cases hki:i=k
    ·subst hki; simp [hsz]at hk
    ·rwa [getD_set_ne false hki]at hk) ⟨i,by simpa using hi,by simpa [Dn] using hnd,by simp [hsz]⟩
   omega
  have hsize':(listed.setIfInBounds i true).size=ops.size:=by simp [h.size]
  have hclosed':yJ ops (listed.setIfInBounds i true):=by
   intro j k hj hk
   rw [zw hsz]at hj ⊢
   rcases hj with rfl|hj
   ·exact .inr (hdp k hk)
   ·exact .inr (h.closed j k hj hk)
  have him:i∈order:=c.all i hi
  have hdst:zd ops i=o.dst:=by simp [zd,ho]
  have hsame:∀ {cv:Value} {d:Nat},zd ops i≠some d→(a.put o.dst cv).tmps.getD d undef=a.tmps.getD d undef:=by
   intro cv d hne
   cases hd:o.dst with
   |none=>rfl
   | some e=>
    have hen:e<a.tmps.size:=by rw [h.tmps,h.n]; exact c.dlt i hi e (by rw [hdst,hd])
    rw [vB hen,if_neg]
    rintro rfl
    exact hne (by rw [hdst,hd])
  have hput:∀ {cv:Value},(a.put o.dst cv).tmps.size=F.n:=by
   intro cv
   simp only [Act.put]; cases o.dst<;>simp [h.tmps]
  have hdef:∀ {cv:Value} {G':Gh},G.le G'→KDs G' F.d (a.put o.dst cv).defers:=by
   intro cv G' hx
   simp only [Act.put]; cases o.dst<;>exact h.defers.le hx
  let R:Nat→Prop:=fun b=>∃j,j∈L∧Dn listed j∧j∉seen∧b=ab j
  have hR:∀b,R b→b<w.heap.size∧YJ st G b:=by
   rintro b ⟨j,h1,h2,h3,rfl⟩
   obtain⟨_,_,_,_,_,_,_,_,q,_,q2,_⟩:=h.ahead j h1 h2 h3
   exact⟨heap_lt q,q2⟩
  by_cases hiD:i∈Di D
  ·
   obtain⟨hiE,hiL,_⟩:=c.DiE hiD
   obtain⟨e,he,hei⟩:=vO.1 hiD
   obtain⟨_,_,_,hpL,hpl,hpB⟩:=c.dE e he
   have hp:Dn listed e.p:=hB e.p (hei▸hpB)
   obtain ⟨v,hok⟩:∃v,DOk E ops F.l e v:=by
    by_cases his:i∈seen
    ·obtain⟨v,q,_⟩:=h.invD e he (hei▸his); exact⟨v,q⟩
    ·have hirest:i∈rest:=by
      have:=him
      rw [h.split]at this
      rcases List.mem_append.1 this with h1|h1
      ·exact absurd (List.mem_reverse.1 h1) his
      ·exact h1
     have hordlt:∀x∈rest,x<ops.size:=fun x hx=>c.lt x (by rw [h.split]; simp [hx])
     obtain ⟨e',v,he',hei',hok⟩:=Y5 (n:=n) hiE hiL hiD rest seen F st h.ad hirest (fun x hx e' he' hei' t ht hd=>by
      obtain⟨q1,q2,q3⟩:=c.dr e' he' t ht x (hordlt x hx) hd
      rcases h.doneSeen x (hB x (hei'▸q3))with q|q|q
      ·exact c.not_seen h.split hx q
      ·exact q1 q
      ·exact q2 q) h.n (fun x hx d hd=>c.dlt x (hordlt x hx) d hd)
     have:e'=e:=c.du e' he' e he (hei'.trans hei.symm)
     subst this
     exact⟨v,hok⟩
   have hpb:PB E ops F.l G w a (ab e.p) e.p:=by
    by_cases hps:e.p∈seen
    ·exact(h.pbs e he hps (hei▸hnd)).pb h.rel
    ·exact(h.ahead e.p hpL hp hps).pb
   obtain⟨_,⟨o1,ho1,hguard,_⟩,_⟩:=id hok
   rw [hei,ho]at ho1; cases ho1
   unfold wpOpIn
   rw [ho]
   simp only
   rw [if_pos (by unfold Region.wanted; rw [hguard])]
   refine rR (st:=st) hE hpb hok (hei▸ho) h.rel (h.nx (List.ne_nil_of_mem he)) h.gl h.rd h.tmps h.defers (fun q hq=> ?_) (fun t ht h1 h2=> ?_) (fun cv w' hkept hdv=> ?_)
   ·obtain⟨qB,⟨d,hd⟩,x,hx,x1,x2,x3⟩:=c.dq e he q hq
    obtain⟨vq,k1,k2⟩:=h.dv x hx (x1▸hB q (hei▸qB))
    exact⟨x,vq,d,x1,x2,x3,k1,hd,by have:=k2 d (x1▸hd); rwa [x2]at this⟩
   ·have ho2:VN ops e t:= .inr (.inr ⟨ht,h1,h2⟩)
    exact h.slot t (fun j hj hjd hd=>hjd (hB j (hei▸(c.dr e he t ho2 j (c.lt j (by rw [h.split]; simp [hj])) hd).2.2))) (fun j hj _ _ hd=>(c.dr e he t ho2 j (hLs j hj) hd).1 hj) (fun j hj _ _ hd=>(c.dr e he t ho2 j (c.DiE hj).2.2 hd).2.1 hj)
   ·refine ih ab _ rest seen F st G w' _ ?_ (fun x r hx=>(hhd x r hx).imp id fun q=>⟨q.1,fun hd=>by
     rw [zw hsz]at hd
     rcases hd with rfl|hd
     ·exact hiL q.1
     ·exact q.2 hd⟩) hfuel
    have hold:∀ {j},j≠i→Dn (listed.setIfInBounds i true) j→Dn listed j:=fun hne hd=>by
     rw [zw hsz]at hd
     exact hd.resolve_left hne
    refine {size:=hsize',split:=h.split,doneSeen:= ?_,effDone:= ?_,closed:=hclosed',inv:= ?_,invD:=h.invD,dv:= ?_,pbs:= ?_,nx:=h.nx,ad:=h.ad,rel:=h.rel.keep hkept,defers:=hdef (.refl _),tmps:=hput,ahead:= ?_,inj:= ?_,slot:= ?_,n:=h.n,ext:=h.ext,gl:=h.gl,rd:=h.rd}
    ·intro j hj
     rw [zw hsz]at hj
     rcases hj with rfl|hj
     ·exact .inr (.inr hiD)
     ·exact h.doneSeen j hj
    ·intro j hj hq; rw [zw hsz]; exact .inr (h.effDone j hj hq)
    ·intro j hj hd; rw [zw hsz]at hd; exact h.inv j hj fun hd'=>hd (.inr hd')
    ·intro x hx hd
     by_cases hxi:x.i=i
     ·have:x=e:=c.du x hx e he (hxi.trans hei.symm)
      subst this
      refine⟨v,hok,fun d hdd=> ?_⟩
      rw [hxi,hdst]at hdd
      rw [hdd,vB (by rw [h.tmps,h.n]; exact c.dlt i hi d (by rw [hdst,hdd])),if_pos rfl]
      exact hdv
     ·obtain⟨u,q1,q2⟩:=h.dv x hx (hold hxi hd)
      exact⟨u,q1,fun d hdd=>by rw [hsame (c.uniq x.i i (c.dE x hx).1 hi hxi d hdd)]; exact q2 d hdd⟩
    ·intro x hx hxp hd
     refine(h.pbs x hx hxp fun q=>hd (by rw [zw hsz]; exact .inr q)).turn (fun _ _=>rfl) (fun _ _ q=>q) (.refl _) (fun d hdd=>hsame (c.uniq x.p i (c.dE x hx).2.2.2.2.1 hi (fun q=>hiL (q▸(c.dE x hx).2.2.2.1)) d hdd))
    ·intro j hj hd hjn
     have hji:j≠i:=fun q=>hiL (q▸hj)
     have hd:=hold hji hd
     have hq:=hR (ab j) ⟨j,hj,hd,hjn,rfl⟩
     exact(h.ahead j hj hd hjn).turn (fun _ _=>rfl) (.refl _) (hkept.heap _ hq.1 (fun q=>q)) hq.2 (fun d hdd=>hsame (c.uniq j i (hLs j hj) hi hji d hdd))
    ·intro x hx y hy hxd hyd hxn hyn
     exact h.inj x hx y hy (hold (fun q=>hiL (q▸hx)) hxd) (hold (fun q=>hiL (q▸hy)) hyd) hxn hyn
    ·intro t ht1 ht2 ht3
     by_cases hdt:zd ops i=some t
     ·by_cases his:i∈seen
      ·obtain⟨u,q1,q2⟩:=h.invD e he (hei▸his)
       have:=hok.uniq q1
       subst this
       rw [q2 t (by rw [hei]; exact hdt)]
       rw [←hdst,hdt,vB (by rw [h.tmps,h.n]; exact c.dlt i hi t hdt),if_pos rfl]
       exact hdv.kr
      ·exact absurd hdt (ht3 i hiD (by rw [zw hsz]; exact .inl rfl) his)
     ·rw [hsame hdt]
      exact h.slot t (fun j hj hdn=>by
       by_cases hji:j=i
       ·subst hji; exact hdt
       ·exact ht1 j hj (fun q=>hdn (hold hji q))) (fun j hj hjd hjn=>ht2 j hj (by rw [zw hsz]; exact .inr hjd) hjn) (fun j hj hjd hjn=>ht3 j hj (by rw [zw hsz]; exact .inr hjd) hjn)
  have headSeen:∀e r,rest=e::r→i∉seen→i∉L→i=e:=by
   intro e r hr his hiL
   have hsplit:order=seen.reverse++e::r:=by rw [←hr]; exact h.split
   have hirest:i∈e::r:=by
    have:=him
    rw [hsplit]at this
    rcases List.mem_append.1 this with h1|h1
    ·exact absurd (List.mem_reverse.1 h1) his
    ·exact h1
   rcases List.mem_cons.1 hirest with h1|h1
   ·exact h1
   ·exfalso
    have hpos:seen.length<order.length:=by rw [hsplit]; simp
    have hat:order[seen.length]=e:=by
     subst hsplit
     rw [List.getElem_append_right (by simp)]
     simp
    have hEL:e∈Es∨e∈L:=(hhd e r hr).imp id (·.1)
    have hb:=c.waits seen.length hpos (by rw [hat]; exact hEL) i (by
     rw [hsplit,List.drop_append]
     simp [h1]) hiL hiD
    rw [hat]at hb
    have hde:=hB e hb
    rcases hhd e r hr with he|⟨_,he⟩
    ·rcases h.doneSeen e hde with h2|h2|h2
     ·exact c.not_seen hsplit (by simp) h2
     ·exact(c.late e h2 (hLs e h2)).1 he
     ·exact(c.DiE h2).1 he
    ·exact he hde
  have hreads:∀t∈zo ops i,(∀j∈seen,¬Dn listed j→zd ops j≠some t)∧(∀j∈L,Dn listed j→j∉seen→zd ops j≠some t)∧∀j∈Di D,Dn listed j→j∉seen→zd ops j≠some t:=by
   intro t ht
   refine⟨?_, ?_, ?_⟩
   ·intro j hj hd hdj
    have hjm:j<ops.size:=c.lt j (by rw [h.split]; simp [hj])
    rcases c.reads i hi t ht j hjm hdj with h1|h1
    ·exact hd (hB j h1)
    ·exact hd (h.effDone j hj (.inl h1.1))
   ·intro j hj hd hjn hdj
    rcases c.reads i hi t ht j (hLs j hj) hdj with h1|h1
    ·by_cases hiL:i∈L
     ·exact((c.late i hiL hi).2.2 t ht).1 j hj hdj
     ·by_cases his:i∈seen
      ·exact hjn (c.seen h.split his j h1)
      ·cases hr:rest with
       | nil=>
        have:=h.split
        rw [hr,List.append_nil]at this
        rw [this]at him
        exact his (List.mem_reverse.1 him)
       | cons e r=>
        have hie:=headSeen e r hr his hiL
        subst hie
        have hsplit:order=(i::seen).reverse++r:=by have:=h.split; rw [hr]at this; rw [this]; simp
        have:=c.seen hsplit (j:=i) (by simp) j h1
        rcases List.mem_cons.1 this with h2|h2
        ·subst h2; exact hnd hd
        ·exact hjn h2
    ·exact(c.late j hj (hLs j hj)).1 h1.1
   ·intro j hj hd hjn hdj
    rcases c.reads i hi t ht j (c.DiE hj).2.2 hdj with h1|h1
    ·by_cases hiL:i∈L
     ·exact((c.late i hiL hi).2.2 t ht).2 j hj hdj
     ·by_cases his:i∈seen
      ·exact hjn (c.seen h.split his j h1)
      ·cases hr:rest with
       | nil=>
        have:=h.split
        rw [hr,List.append_nil]at this
        rw [this]at him
        exact his (List.mem_reverse.1 him)
       | cons e r=>
        have hie:=headSeen e r hr his hiL
        subst hie
        have hsplit:order=(i::seen).reverse++r:=by have:=h.split; rw [hr]at this; rw [this]; simp
        have:=c.seen hsplit (j:=i) (by simp) j h1
        rcases List.mem_cons.1 this with h2|h2
        ·subst h2; exact hnd hd
        ·exact hjn h2
    ·exact(c.DiE hj).1 h1.1
  have hmr:∀t∈zo ops i,zN F.l t=zN (uf ops L (Di D) listed seen F).l t:=fun t ht=>(Z1 (hreads t ht).1 (hreads t ht).2.1 (hreads t ht).2.2).symm
  have hmask:=h.mask
  have hmo:∀x∈o.op.operands,KR G (zg E.ng F.l x) (a.eval x):=fun x hx=>by
   rw [wK (F':=uf ops L (Di D) listed seen F) (fun t ht=>hmr t (by unfold zo; rw [ho]; simp [ht])) x hx]
   exact hmask.eval h.gl hE.ng x
  have hwant:∀t,yr ops F.l o=some t→Region.wanted o (yielded ops a.tmps)=t:=by
   intro t ht
   rw [bg ho hmr]at ht
   exact uM hmask ht
  unfold wpOpIn
  rw [ho]
  simp only
  by_cases his:i∈seen
  ·
   have hstill:=h.inv i his hnd hiD
   have hiE:i∉Es:=fun he=>hnd (h.effDone i his (.inl he))
   have hiL:i∉L:=fun he=>hnd (h.effDone i his (.inr he))
   have cont:∀(v:KV) (cv:Value) (G':Gh) (w':World),(∀d,o.dst=some d→zN F.l d=v)→KR G' v cv→KRel w0 G' st w'→G.le G'→(∀b,R b→w'.heap[b]? =w.heap[b]? ∧YJ st G' b)→wpAnyIn Fn nn P .any ops Q fuel (listed.setIfInBounds i true) (a.put o.dst cv) w':=by
    intro v cv G' w' hv hvr hrel hx hkeep
    refine ih ab _ rest seen F st G' w' _ ?_ (fun e r he=>(hhd e r he).imp id fun q=>⟨q.1,fun hd=>by
     rw [zw hsz]at hd
     rcases hd with rfl|hd
     ·exact hiL q.1
     ·exact q.2 hd⟩) hfuel
    refine {size:=hsize',split:=h.split,doneSeen:= ?_,effDone:= ?_,closed:=hclosed',inv:= ?_,ad:=h.ad,rel:=hrel,defers:=hdef hx,tmps:=hput,ahead:= ?_,inj:= ?_,slot:= ?_,n:=h.n,ext:=h.ext.trans hx,gl:=h.gl.le hx,rd:=h.rd.le hx,invD:=h.invD,dv:= ?dv,pbs:= ?pbs,nx:=h.nx}
    case dv=>
     intro x hxD hd
     have hxi:x.i≠i:=fun q=>hiD (vO.2 ⟨x,hxD,q⟩)
     rw [zw hsz]at hd
     obtain⟨u,q1,q2⟩:=h.dv x hxD (hd.resolve_left hxi)
     exact⟨u,q1,fun d hdd=>by rw [hsame (c.uniq x.i i (c.dE x hxD).1 hi hxi d hdd)]; exact(q2 d hdd).le hx⟩
    case pbs=>
     intro x hxD hxp hd
     exact(h.pbs x hxD hxp fun q=>hd (by rw [zw hsz]; exact .inr q)).turn (fun _ _=>rfl) (fun _ _ q=>q) hx (fun d hdd=>hsame (c.uniq x.p i (c.dE x hxD).2.2.2.2.1 hi (fun q=>hiL (q▸(c.dE x hxD).2.2.2.1)) d hdd))
    ·intro j hj
     rw [zw hsz]at hj
     rcases hj with rfl|hj
     ·exact .inl his
     ·exact h.doneSeen j hj
    ·intro j hj he; rw [zw hsz]; exact .inr (h.effDone j hj he)
    ·intro j hj hd; rw [zw hsz]at hd; exact h.inv j hj fun hd'=>hd (.inr hd')
    ·intro j hj hd hjn
     have hji:j≠i:=fun q=>hiL (q▸hj)
     have hd:Dn listed j:=by
      rw [zw hsz]at hd
      exact hd.resolve_left hji
     have:=hkeep (ab j) ⟨j,hj,hd,hjn,rfl⟩
     exact(h.ahead j hj hd hjn).turn (fun _ _=>rfl) hx this.1 this.2 (fun d hdd=>hsame (c.uniq j i (hLs j hj) hi hji d hdd))
    ·intro x hx y hy hxd hyd hxn hyn
     have e1:∀ {z},z∈L→Dn (listed.setIfInBounds i true) z→Dn listed z:=fun {z} hz hd=>by
      rw [zw hsz]at hd
      exact hd.resolve_left fun q=>hiL (q▸hz)
     exact h.inj x hx y hy (e1 hx hxd) (e1 hy hyd) hxn hyn
    ·intro t ht1 ht2 ht3
     have old:zd ops i≠some t→KR G' (zN F.l t) (a.tmps.getD t undef):=fun hne=>(h.slot t (fun j hj hdn he=>by
      by_cases hji:j=i
      ·subst hji; exact hne he
      ·exact ht1 j hj (by rw [zw hsz]; rintro(h1|h1); exact hji h1; exact hdn h1) he) (fun j hj hjd hjn=>ht2 j hj (by rw [zw hsz]; exact .inr hjd) hjn) (fun j hj hjd hjn=>ht3 j hj (by rw [zw hsz]; exact .inr hjd) hjn)).le hx
     cases hd:o.dst with
     |none=>exact old (by rw [hdst,hd]; simp)
     | some d=>
      have hdn:d<a.tmps.size:=by rw [h.tmps,h.n]; exact c.dlt i hi d (by rw [hdst,hd])
      rw [vB hdn]
      by_cases htd:t=d
      ·subst htd
       rw [if_pos rfl,hv t hd]
       exact hvr
      ·rw [if_neg htd]
       exact old (by rw [hdst,hd]; intro q; injection q with q; exact htd q.symm)
   obtain ⟨v,hv,hvd⟩:∃v,xM P E.ng rd ops i F st v∧∀d,o.dst=some d→zN F.l d=v:=by
    unfold xn at hstill
    rw [hdst]at hstill
    cases hd:o.dst with
    |none=>rw [hd]at hstill; obtain⟨v,hv⟩:=hstill; exact⟨v,hv,by simp⟩
    |some d=>rw [hd]at hstill; exact⟨_,hstill,by intro e he; injection he with he; rw [he]⟩
   unfold xM at hv
   rw [ho]at hv
   simp only at hv
   cases hw:yr ops F.l o with
   |none=>rw [hw]at hv; exact hv.elim
   | some t=>
    rw [hw]at hv
    cases t with
    | true=>
     rw [if_pos (hwant _ hw)]
     exact KDo.reserve hv R hR h.gl h.rd h.rel hmo fun cv G' w' g1 g2 g3 g4=>cont v cv G' w' hvd g2 g3 g1 g4
    | false=>
     rw [if_neg (by rw [hwant _ hw]; simp)]
     simp only at hv
     subst hv
     exact⟨fun g _=>h.rd.fn g,cont (.tuple []) undef G w hvd (.tuple rfl (by simp)) h.rel (.refl _) fun b hb=>⟨rfl,(hR b hb).2⟩⟩
  ·by_cases hiL:i∈L
   ·
    have hiE:=(c.late i hiL hi).1
    have hirest:i∈rest:=by
     have:=him
     rw [h.split]at this
     rcases List.mem_append.1 this with h1|h1
     ·exact absurd (List.mem_reverse.1 h1) his
     ·exact h1
    have hordlt:∀x∈rest,x<ops.size:=fun x hx=>c.lt x (by rw [h.split]; simp [hx])
    obtain ⟨o',tm,cs,ho',hk⟩:=UH (n:=n) hiE hiL rest seen F st h.ad hirest (fun x hx _ _=>hordlt x hx) (by
     intro pre post hpp x hx d hd hr
     have hsp:order=seen.reverse++(pre++i::post):=by rw [←hpp]; exact h.split
     have hxr:x∈rest:=by rw [hpp]; simp [hx]
     have hxs:x∉seen:=c.not_seen h.split hxr
     rcases c.reads i hi d hr x (hordlt x hxr) hd with h1|h1
     ·rcases h.doneSeen x (hB x h1)with h2|h2|h2
      ·exact hxs h2
      ·exact((c.late i hiL hi).2.2 d hr).1 x h2 hd
      ·exact((c.late i hiL hi).2.2 d hr).2 x h2 hd
     ·rcases h1.2 with h2|h2
      ·subst h2; exact hiE h1.1
      ·
       obtain⟨s,t,hst⟩:=List.append_of_mem hx
       have hsp2:order=(x::(seen.reverse++s).reverse).reverse++(t++i::post):=by rw [hsp,hst]; simp
       have:=c.seen hsp2 (j:=x) (by simp) i h2
       have hnot:=c.not_seen hsp2 (i:=i) (by simp)
       exact hnot this) h.n (fun x hx d hd=>c.dlt x (hordlt x hx) d hd)
    rw [ho]at ho'; injection ho' with ho'; subst ho'
    have hguard:=(c.late i hiL hi).2.1 o ho
    rw [if_pos (by unfold Region.wanted; rw [hguard])]
    refine oC (B:=w0) (h:=st) hE h.gl h.rd hmo hk ?_
    intro cv C el room q1 q2 q3 q4
    have hpre':wN P E rd Fn ops n order Es L D B w0 G0 K (fun j=>if j=i then w.heap.size else ab j) (listed.setIfInBounds i true) rest seen F st G (w.alloc (.cells C el)) (a.put o.dst cv):=by
     refine {size:=hsize',split:=h.split,doneSeen:= ?_,effDone:= ?_,closed:=hclosed',inv:= ?_,ad:=h.ad,rel:=h.rel.junk _,defers:=hdef (.refl _),tmps:=hput,ahead:= ?_,inj:= ?_,slot:= ?_,n:=h.n,ext:=h.ext,gl:=h.gl,rd:=h.rd,invD:=h.invD,dv:= ?dv,pbs:= ?pbs,nx:=h.nx}
     case dv=>
      intro x hxD hd
      have hxi:x.i≠i:=fun q=>hiD (vO.2 ⟨x,hxD,q⟩)
      rw [zw hsz]at hd
      have hd:=hd.resolve_left hxi
      obtain⟨u,q1,q2⟩:=h.dv x hxD hd
      have hpi:x.p≠i:=fun q=>hnd (q▸c.dn h.closed (c.dE x hxD).1 hd x.p (c.dE x hxD).2.2.2.2.2)
      refine⟨u,q1,fun d hdd=> ?_⟩
      rw [hsame (c.uniq x.i i (c.dE x hxD).1 hi hxi d hdd)]
      simp only [if_neg hpi]
      exact q2 d hdd
     case pbs=>
      intro x hxD hxp hd
      have hpi:x.p≠i:=fun q=>his (q▸hxp)
      simp only [if_neg hpi]
      exact(h.pbs x hxD hxp fun q=>hd (by rw [zw hsz]; exact .inr q)).turn (fun _ _=>rfl) (fun _ _ q=>q) (.refl _) (fun d hdd=>hsame (c.uniq x.p i (c.dE x hxD).2.2.2.2.1 hi hpi d hdd))
     ·intro j hj
      rw [zw hsz]at hj
      rcases hj with rfl|hj
      ·exact .inr (.inl hiL)
      ·exact h.doneSeen j hj
     ·intro j hj he; rw [zw hsz]; exact .inr (h.effDone j hj he)
     ·intro j hj hd; rw [zw hsz]at hd; exact h.inv j hj fun hd'=>hd (.inr hd')
     ·intro j hj hd hjn
      by_cases hji:j=i
      ·subst hji
       simp only [if_true]
       refine⟨o,tm,cs,C,el,room,ho,hk, ?_,h.rel.kept.size, ?_,q1,q2,q3, ?_⟩
       ·show(w.heap.push _)[w.heap.size]? =_; simp
       ·intro id x k e1 e2
        exact absurd (h.rel.lt _ _ _ e2).1 (Nat.lt_irrefl _)
       ·intro d hd' G' id g1 g2
        have hdn:d<a.tmps.size:=by rw [h.tmps,h.n]; exact c.dlt j hi d (by rw [hdst,hd'])
        rw [hd',vB hdn,if_pos rfl]
        exact q4 G' id g1 g2
      ·have hd:Dn listed j:=by
        rw [zw hsz]at hd
        exact hd.resolve_left hji
       simp only [if_neg hji]
       have hA:=h.ahead j hj hd hjn
       have hq:=(hR (ab j) ⟨j,hj,hd,hjn,rfl⟩)
       exact hA.turn (fun _ _=>rfl) (.refl _) (Go.RowKit.Below.heap_alloc _ _ _ hq.1) hq.2 (fun d hdd=>hsame (c.uniq j i (hLs j hj) hi hji d hdd))
     ·intro x hx y hy hxd hyd hxn hyn he
      have e1:∀ {z},z≠i→Dn (listed.setIfInBounds i true) z→Dn listed z:=fun {z} hz hd=>by
       rw [zw hsz]at hd
       exact hd.resolve_left hz
      by_cases hxi:x=i
      ·by_cases hyi:y=i
       ·exact hxi.trans hyi.symm
       ·exfalso
        simp only [if_pos hxi,if_neg hyi]at he
        have:=(hR (ab y) ⟨y,hy,e1 hyi hyd,hyn,rfl⟩).1
        omega
      ·by_cases hyi:y=i
       ·exfalso
        simp only [if_pos hyi,if_neg hxi]at he
        have:=(hR (ab x) ⟨x,hx,e1 hxi hxd,hxn,rfl⟩).1
        omega
       ·simp only [if_neg hxi,if_neg hyi]at he
        exact h.inj x hx y hy (e1 hxi hxd) (e1 hyi hyd) hxn hyn he
     ·intro t ht1 ht2 ht3
      have hne:zd ops i≠some t:=ht2 i hiL (by rw [zw hsz]; exact .inl rfl) his
      rw [hsame hne]
      exact h.slot t (fun j hj hdn=>ht1 j hj (by
       rw [zw hsz]
       rintro(h1|h1)
       ·subst h1; exact his hj
       ·exact hdn h1)) (fun j hj hjd hjn=>ht2 j hj (by rw [zw hsz]; exact .inr hjd) hjn) (fun j hj hjd hjn=>ht3 j hj (by rw [zw hsz]; exact .inr hjd) hjn)
    obtain⟨rest',seen',F',st',G',hp,hh⟩:=hpre'.norm c
    exact ih _ _ rest' seen' F' st' G' _ _ hp hh hfuel
   ·
    cases hr:rest with
    | nil=>
     exfalso
     have:=h.split
     rw [hr,List.append_nil]at this
     rw [this]at him
     exact his (List.mem_reverse.1 him)
    | cons e r=>
     have hie:=headSeen e r hr his hiL
     subst hie
     have hiE:i∈Es:=by
      rcases hhd i r hr with h1|h1
      ·exact h1
      ·exact absurd h1.1 hiL
     have hsplit:order=seen.reverse++i::r:=by rw [←hr]; exact h.split
     have had:=h.ad
     rw [hr]at had
     simp only [kD3]at had
     rw [if_pos (by simpa using hiE)]at had
     have cont:∀(v:KV) (cv:Value) (st1:KH) (G':Gh) (w':World),v6 P E.ng rd ops (Es++L++Di D) (B.getD i []) seen (F.put o.dst v) st1→(D≠ []→st1.next≤NV)→kD3 P E rd ops Es L D B r (i::seen) (F.put o.dst v) st1 K→KR G' v cv→KRel w0 G' st1 w'→G.le G'→(∀b,R b→w'.heap[b]? =w.heap[b]? ∧YJ st1 G' b) →
       wpAnyIn Fn nn P .any ops Q fuel (listed.setIfInBounds i true) (a.put o.dst cv) w':=by
      intro v cv st1 G' w' hstab hnv had' hvr hrel hx hkeep
      have hpre':wN P E rd Fn ops n order Es L D B w0 G0 K ab (listed.setIfInBounds i true) r (i::seen) (F.put o.dst v) st1 G' w' (a.put o.dst cv):=by
       refine {size:=hsize',split:=by rw [hsplit]; simp,doneSeen:= ?_,effDone:= ?_,closed:=hclosed',inv:= ?_,ad:=had',rel:=hrel,defers:=by rw [ZS]; exact hdef hx,tmps:=by rw [ui]; exact hput,ahead:= ?_,inj:= ?_,slot:= ?_,n:=by rw [ui]; exact h.n,ext:=h.ext.trans hx,gl:=h.gl.le hx,rd:=h.rd.le hx,invD:= ?invD,dv:= ?dv,pbs:= ?pbs,nx:=hnv}
       case invD=>
        intro x hxD hxs
        rw [←hdst]
        rcases List.mem_cons.1 hxs with q|q
        ·exact absurd (vO.2 ⟨x,hxD,q⟩) hiD
        ·exact h.invD_put c hi his x hxD q
       case dv=>
        intro x hxD hd
        rw [←hdst]
        have hxi:x.i≠i:=fun q=>hiD (vO.2 ⟨x,hxD,q⟩)
        rw [zw hsz]at hd
        obtain⟨u,q1,q2⟩:=h.dv_put (v:=v) c hi his x hxD (hd.resolve_left hxi)
        refine⟨u,q1,fun d hdd=> ?_⟩
        rw [hdst,hsame (c.uniq x.i i (c.dE x hxD).1 hi hxi d hdd)]
        exact(q2 d hdd).le hx
       case pbs=>
        intro x hxD hxp hd
        exfalso
        have hxs:x.p∈seen:=by
         rcases List.mem_cons.1 hxp with q|q
         ·exact absurd (c.dE x hxD).2.2.2.1 (q▸hiL)
         ·exact q
        rcases c.dw x hxD i hiE with q|q
        ·exact hd (by rw [zw hsz]; exact .inr (hB x.i q))
        ·obtain⟨k,hk,hke,hks⟩:=c.take_seen hsplit hxs
         exact his (hks i (q k hk hke))
       ·intro j hj
        rw [zw hsz]at hj
        rcases hj with rfl|hj
        ·exact .inl (by simp)
        ·exact(h.doneSeen j hj).imp (List.mem_cons_of_mem _) id
       ·intro j hj he
        rw [zw hsz]
        rcases List.mem_cons.1 hj with h1|h1
        ·exact .inl h1
        ·exact .inr (h.effDone j h1 he)
       ·intro j hj hd hjD
        rw [zw hsz]at hd
        rcases List.mem_cons.1 hj with h1|h1
        ·exact absurd (.inl h1) hd
        ·exact j5 hstab j h1 (fun he=>by
          rcases List.mem_append.1 he with he|he
          ·exact hd (.inr (h.effDone j h1 (List.mem_append.1 he)))
          ·exact hjD he) (fun hb=>hd (.inr (hB j hb)))
       ·intro j hj hd hjn
        simp only [List.mem_cons,not_or]at hjn
        have hd:Dn listed j:=by
         rw [zw hsz]at hd
         exact hd.resolve_left hjn.1
        have hq:=hkeep (ab j) ⟨j,hj,hd,hjn.2,rfl⟩
        refine(h.ahead j hj hd hjn.2).turn ?_ hx hq.1 hq.2 (fun d hdd=>hsame (c.uniq j i (hLs j hj) hi hjn.1 d hdd))
        intro t ht
        cases hd':o.dst with
        |none=>rfl
        | some d=>
         have hdn:d<F.n:=by rw [h.n]; exact c.dlt i hi d (by rw [hdst,hd'])
         rw [xb hdn,if_neg]
         rintro rfl
         rcases c.reads j (hLs j hj) t ht i hi (by rw [hdst,hd'])with h1|h1
         ·exact hnd (c.dn h.closed (hLs j hj) hd i h1)
         ·rcases h1.2 with h2|h2
          ·exact hjn.1 h2.symm
          ·have hsp2:order=(i::seen).reverse++r:=by rw [hsplit]; simp
           rcases List.mem_cons.1 (c.seen hsp2 (j:=i) (by simp) j h2)with h3|h3
           ·exact hjn.1 h3
           ·exact hjn.2 h3
       ·intro x hx y hy hxd hyd hxn hyn
        simp only [List.mem_cons,not_or]at hxn hyn
        have e1:∀ {z},z≠i→Dn (listed.setIfInBounds i true) z→Dn listed z:=fun {z} hz hd=>by
         rw [zw hsz]at hd
         exact hd.resolve_left hz
        exact h.inj x hx y hy (e1 hxn.1 hxd) (e1 hyn.1 hyd) hxn.2 hyn.2
       ·intro t ht1 ht2 ht3
        have old:KR G' (zN F.l t) (a.tmps.getD t undef):=(h.slot t (fun j hj hdn=>ht1 j (List.mem_cons_of_mem _ hj) (by
         rw [zw hsz]
         rintro(h1|h1)
         ·subst h1; exact his hj
         ·exact hdn h1)) (fun j hj hjd hjn=>ht2 j hj (by rw [zw hsz]; exact .inr hjd) (by
          simp only [List.mem_cons,not_or]
          exact⟨fun q=>hiL (q▸hj),hjn⟩)) (fun j hj hjd hjn=>ht3 j hj (by rw [zw hsz]; exact .inr hjd) (by
          simp only [List.mem_cons,not_or]
          exact⟨fun q=>hiD (q▸hj),hjn⟩))).le hx
        cases hd:o.dst with
        |none=>exact old
        | some d=>
         have hdn:d<F.n:=by rw [h.n]; exact c.dlt i hi d (by rw [hdst,hd])
         rw [vB (by rw [h.tmps]; exact hdn),xb hdn]
         by_cases htd:t=d
         ·rw [if_pos htd,if_pos htd]; exact hvr
         ·rw [if_neg htd,if_neg htd]; exact old
      obtain⟨rest',seen',F',st',G'',hp,hh⟩:=hpre'.norm c
      exact ih _ _ rest' seen' F' st' G'' _ _ hp hh hfuel
     unfold W7 at had
     rw [ho]at had
     simp only at had
     cases hw:yr ops F.l o with
     |none=>rw [hw]at had; exact had.elim
     | some t=>
      rw [hw]at had
      cases t with
      | true=>
       obtain⟨v,st1,hv,k1,knx,k2⟩:=had
       rw [if_pos (hwant _ hw)]
       exact KDo.reserve hv R hR h.gl h.rd h.rel hmo fun cv G' w' g1 g2 g3 g4=>cont v cv st1 G' w' k1 knx k2 g2 g3 g1 g4
      | false=>
       rw [if_neg (by rw [hwant _ hw]; simp)]
       obtain⟨k1,knx,k2⟩:=had
       exact⟨fun g _=>h.rd.fn g,cont (.tuple []) undef st G w k1 knx k2 (.tuple rfl (by simp)) h.rel (.refl _) fun b hb=>⟨rfl,(hR b hb).2⟩⟩
theorem VL {fr fr':KFr} {h h':KH} {id:Nat} (hE:E.Ok P) (hm:P.follows .mixedOrders=true) (c:wG ops fr.n order Es L D B) (hLs:∀i∈L,i<ops.size) (hnx:D≠ []→h.next≤NV)
  (k:kD3 P E rd ops Es L D B order [] fr h fun f t=>f=fr'∧t=h'):KC P rd (.region id ops true) fr h .normal fr' h':=by
 intro w0 G w a F nn hg hr kr f
 refine wpIn_region_any hm ?_
 have hnone:∀j,¬Dn (Array.replicate ops.size false) j:=by
  intro j hd
  simp only [Dn,Array.getD_eq_getD_getElem?,Array.getElem?_replicate]at hd
  split at hd<;>simp at hd
 have hp:wN P E rd F ops fr.n order Es L D B w0 G (fun f t=>f=fr'∧t=h') (fun _=>0) (Array.replicate ops.size false) order [] fr h G {w with drawn:=w.drawn+1} a:=
  {size:=by simp,split:=by simp,doneSeen:=fun i hi=>absurd hi (hnone i),effDone:=fun i hi=>(by cases hi),closed:=fun j k hj=>absurd hj (hnone j),inv:=fun j hj=>(by cases hj),ad:=k,rel:=kr.of_heap rfl rfl rfl rfl,defers:=f.ds,tmps:=f.sl.size,ahead:=fun j _ hd=>absurd hd (hnone j),inj:=fun i _ j _ hd=>absurd hd (hnone i),slot:=fun t _ _ _=>f.sl.slot t,invD:=fun e _ hs=>(by cases hs),dv:=fun e _ hd=>absurd hd (hnone _),pbs:=fun e _ hs=>(by cases hs),nx:=hnx,n:=rfl,ext:= .refl _,gl:=hg,rd:=hr}
 obtain⟨rest',seen',F',st',G',hp',hh⟩:=hp.norm c
 refine lF (rd:=rd) hE c hLs (w0:=w0) (G0:=G) (Fn:=F) (nn:=nn) (K:=fun f t=>f=fr'∧t=h') (Q:=kx w0 G .normal fr' h') (fun f1 st1 G1 a1 w1 m1 m2 m3 m4=>⟨rfl,G1,m4,m1.1▸m3,m1.2▸m2⟩) ops.size _ _ rest' seen' F' st' G' _ a hp' hh ?_
 refine Nat.le_trans (List.length_filter_le _ _) (by simp)
end
def qC:Op→Bool
 | .alloc _| .box .. | .buildSlice .. | .makeSlice .. => true
 |_=>false
theorem pF {E:KE} {l:Sl} {h h':KH} {op:Op} {v:KV} (hc:qC op=true) (e:zu E l h op=some (v,h')):∃tm cs,kal E l op=some (tm,cs)∧yw h=true∧v=tm.at h.next∧h'=h.push (.cells false cs):=by
 cases op<;>first|(cases hc; done)|skip
 ·rename_i el
  simp only [zu]at e
  split at e
  ·rename_i hh
   simp only [Option.some.injEq,Prod.mk.injEq]at e
   obtain⟨rfl,rfl⟩:=e
   exact⟨.ptr,_,by simp only [kal]; rw [if_pos ⟨hh.1,hh.2.1⟩],hh.2.2,rfl,rfl⟩
  ·cases e
 ·rename_i t x
  simp only [zu]at e
  split at e
  ·rename_i hh
   simp only [Option.some.injEq,Prod.mk.injEq]at e
   obtain⟨rfl,rfl⟩:=e
   exact⟨.ptr,_,by simp only [kal]; rw [if_pos hh.1],hh.2,rfl,rfl⟩
  ·cases e
 ·rename_i t len ps
  simp only [zu,vK]at e
  split at e
  ·rename_i el sz by_ hd
   split at e
   ·rename_i hh
    split at e
    ·rename_i cs hf
     simp only [Option.some.injEq,Prod.mk.injEq]at e
     obtain⟨rfl,rfl⟩:=e
     exact⟨.sl len len sz,cs,by simp only [kal,hd]; rw [if_pos ⟨hh.1,hh.2.1,hh.2.2.1⟩,hf],hh.2.2.2,rfl,rfl⟩
    ·cases e
   ·cases e
  ·cases e
 ·rename_i t n c
  simp only [zu,Yf]at e
  split at e
  ·rename_i el sz bytes k1 li k2 ci hd hn hcc
   split at e
   ·rename_i hh
    simp only [Option.some.injEq,Prod.mk.injEq]at e
    obtain⟨rfl,rfl⟩:=e
    exact⟨.sl li.toNat ci.toNat sz,_,by simp only [kal,hd,hn,hcc]; rw [if_pos ⟨hh.1,hh.2.1,hh.2.2.1,hh.2.2.2.1,hh.2.2.2.2.1,hh.2.2.2.2.2.1⟩],hh.2.2.2.2.2.2,rfl,rfl⟩
   ·cases e
  ·cases e
def U5 (ops:Array Oper) (n:Nat) (order Es L:List Nat) (B:List (List Nat)):Bool:=
 decide order.Nodup&&order.length==ops.size&&(List.range ops.size).all (fun i=>order.contains i)&&order.all (fun i=>decide (i<ops.size)) &&
 (List.range order.length).all (fun p=>(dp ops (order.getD p 0)).all fun k=>(order.take p).contains k) &&
 (List.range ops.size).all (fun j=>(B.getD j []).all fun i=>(dp ops j).contains i||(dp ops j).any fun k=>(B.getD k []).contains i) &&
 (List.range ops.size).all (fun i=>(match zd ops i with|some d=>decide (d<n)|none=>true)&&(List.range ops.size).all fun j=>i==j||(match zd ops i,zd ops j with|some d,some e=> !(d==e)|_,_=>true)) &&
 (List.range ops.size).all (fun i=>(zo ops i).all fun t=>(List.range ops.size).all fun w=>(match zd ops w with|some d=> !(d==t)|none=>true)||(B.getD i []).contains w||(Es.contains w&&((w==i)||(B.getD w []).contains i))) &&
 (List.range order.length).all (fun p=> !(Es.contains (order.getD p 0)||L.contains (order.getD p 0))||(order.drop (p+1)).all fun j=>L.contains j||(B.getD j []).contains (order.getD p 0)) &&
 L.all (fun i=>decide (i<ops.size) && !(Es.contains i)&&(match ops[i]? with|some o=>o.guard.isNone|none=>true)&&(zo ops i).all fun t=>L.all fun k=>match zd ops k with|some d=> !(d==t)|none=>true)
theorem GC.of {ops:Array Oper} {n:Nat} {order Es L:List Nat} {B:List (List Nat)} (h:U5 ops n order Es L B=true):GC ops n order Es L B∧∀i∈L,i<ops.size:=by
 simp only [U5,iF,List.all_eq_true,List.mem_range,decide_eq_true_eq,beq_iff_eq,List.contains_iff_mem,Bool.or_eq_true,List.any_eq_true,Bool.not_eq_true',List.contains_eq_mem,decide_eq_false_iff_not,Bool.or_eq_false_iff]at h
 obtain⟨⟨⟨⟨⟨⟨⟨⟨⟨h0,h1⟩,h2⟩,h3⟩,h4⟩,h5⟩,h6⟩,h7⟩,h9⟩,h10⟩:=h
 have getD:∀p (hp:p<order.length),order.getD p 0=order[p]:=fun p hp=>by simp [List.getD,hp]
 refine ⟨{
  nodup:=h0
  len:=h1
  all:=h2
  lt:=h3
  topo:=fun p hp k hk=>h4 p hp k (by rw [getD p hp]; exact hk)
  clos:=fun j hj i hi=>h5 j hj i hi
  dlt:=fun i hi d hd=>by
   have:=(h6 i hi).1
   rw [hd]at this; simpa using this
  uniq:=fun i j hi hj hne d hd hd'=>by
   have:=(h6 i hi).2 j hj
   rcases this with h|h
   ·exact hne h
   ·rw [hd,hd']at h; simp at h
  reads:=fun i hi t ht k hk hd=>by
   have:=h7 i hi t ht k hk
   rcases this with(h|h)|h
   ·rw [hd]at h; simp at h
   ·exact .inl h
   ·exact .inr h
  waits:=fun p hp he j hj hjL=>by
   have:=h9 p hp
   rw [getD p hp]at this
   rcases this with h|h
   ·exact(he.elim h.1 h.2).elim
   ·exact(h j hj).resolve_left hjL
  late:=fun i hi hs=>by
   obtain⟨⟨⟨_,q2⟩,q3⟩,q4⟩:=h10 i hi
   refine⟨q2,fun o ho=> ?_,fun t ht k hk hd=> ?_⟩
   ·rw [ho]at q3; simpa using q3
   ·have:=q4 t ht k hk
    rw [hd]at this; simp at this},fun i hi=>(h10 i hi).1.1.1⟩
end Go.K
end
