/- Abstract values: a part. No condition beyond each statement's own. -/
import Derived.Test.YthfhicembdpjpaaGreatDoorA14
set_option linter.all false
section
namespace Go.Abs
open Go.RowKit (Below)
theorem Vi {P:Program} (st:St) (b:Builtin) (args:List Operand) (tys:List TypeId) {ev ev':Operand→V} (h:∀x∈args,ev x=ev' x):gG P st b args tys ev=gG P st b args tys ev':=by
 have hm:args.map ev=args.map ev':=List.map_congr_left h
 unfold gG
 split
 ·rename_i x t tx
  rw [h x O2]
 ·rw [hm]
theorem Y1 {P:Program} {gl:Nat→List V} {fr fr':AFr} {st:St} (o:Oper) (h:∀x∈o.op.operands,fr.eval x=fr'.eval x):xY P gl fr st o.op=xY P gl fr' st o.op:=by
 obtain⟨dst,op,ty,pos,after,guard⟩:=o
 simp only at h ⊢
 cases op<;>simp only [xY]
 case call c=>
  obtain⟨callee,args,tys⟩:=c
  cases callee with
  | builtin b=>
   have:args.toList.map fr.eval=args.toList.map fr'.eval:=List.map_congr_left fun x hx=>h x (by simp [Op.operands,Call.operands]; simpa using hx)
   exact Vi st b args.toList tys.toList fun x hx=>h x (by simp [Op.operands,Call.operands]; simpa using hx)
  |_=>rfl
 case build t parts=>
  have:(parts.toList.map fun(i,x)=>(i,fr.eval x))=(parts.toList.map fun(i,x)=>(i,fr'.eval x)):=List.map_congr_left fun x hx=>by
   have:=h x.2 (by simp [Op.operands]; exact⟨x.1,by simpa using hx⟩)
   simp only [this]
  simp only [this]
 case buildSlice t n parts=>
  have:(parts.toList.map fun(i,x)=>(i,fr.eval x))=(parts.toList.map fun(i,x)=>(i,fr'.eval x)):=List.map_congr_left fun x hx=>by
   have:=h x.2 (by simp [Op.operands]; exact⟨x.1,by simpa using hx⟩)
   simp only [this]
  simp only [this]
 case makeFunc fn first captured=>
  have h1:first.toList.map fr.eval=first.toList.map fr'.eval:=List.map_congr_left fun x hx=>h x (by simp [Op.operands]; left; simpa using hx)
  have h2:captured.toList.map fr.eval=captured.toList.map fr'.eval:=List.map_congr_left fun x hx=>h x (by simp [Op.operands]; right; simpa using hx)
  simp only [h1,h2]
 case slice t x lo hi mx=>
  have h0:fr.eval x=fr'.eval x:=h x (by simp [Op.operands])
  have h1:lo.map fr.eval=lo.map fr'.eval:=by cases lo with|none=>rfl|some y=>simp; exact h y (by simp [Op.operands])
  have h2:hi.map fr.eval=hi.map fr'.eval:=by cases hi with|none=>rfl|some y=>simp; exact h y (by simp [Op.operands])
  have h3:mx.map fr.eval=mx.map fr'.eval:=by cases mx with|none=>rfl|some y=>simp; exact h y (by simp [Op.operands])
  simp only [h0,h1,h2,h3]
 case pick c x y=>simp only [h c (by simp [Op.operands]),h x (by simp [Op.operands]),h y (by simp [Op.operands])]
 case store t x y=>simp only [h x (by simp [Op.operands]),h y (by simp [Op.operands])]
 case binOp op t x y yt=>simp only [h x (by simp [Op.operands]),h y (by simp [Op.operands])]
 case makeSlice t x y=>simp only [h x (by simp [Op.operands]),h y (by simp [Op.operands])]
 case indexAddr t x y=>simp only [h x (by simp [Op.operands]),h y (by simp [Op.operands])]
 case index t x y=>simp only [h x (by simp [Op.operands]),h y (by simp [Op.operands])]
 case move x=>simp only [h x (by simp [Op.operands])]
 case assign x=>simp only [h x (by simp [Op.operands])]
 case box t x=>simp only [h x (by simp [Op.operands])]
 case load t x=>simp only [h x (by simp [Op.operands])]
 case nilCheck x=>simp only [h x (by simp [Op.operands])]
 case unOp op t x=>simp only [h x (by simp [Op.operands])]
 case convert s d x=>simp only [h x (by simp [Op.operands])]
 case extract x i=>simp only [h x (by simp [Op.operands])]
 case fieldAddr s x f=>simp only [h x (by simp [Op.operands])]
 case field s x f=>simp only [h x (by simp [Op.operands])]
 case mapUpdate t m k x=>simp only [h m (by simp [Op.operands]),h k (by simp [Op.operands]),h x (by simp [Op.operands])]
 case lookup t m k ok=>simp only [h m (by simp [Op.operands]),h k (by simp [Op.operands])]
 case range t x=>simp only [h x (by simp [Op.operands])]
 case makeInterface t x=>simp only [h x (by simp [Op.operands])]
 case typeAssert x xt t ok=>simp only [h x (by simp [Op.operands])]
 case makeMap t r=>cases r<;>rfl
 case next it b=>cases b<;>simp only [h it (by simp [Op.operands])]
theorem Ke {P:Program} {gl:Nat→List V} {fr fr':AFr} {st:St} {o:Oper} {K:V→St→Prop} (h:∀x∈o.op.operands,fr.eval x=fr'.eval x) (ha:pU P gl o fr st K):pU P gl o fr' st K:=by
 unfold pU at ha ⊢
 split at ha
 ·rename_i f args tys hop
  rw [hop]at h
  have h1:fr.eval f=fr'.eval f:=h f (by simp [Op.operands,Call.operands])
  have h2:args.toList.map fr.eval=args.toList.map fr'.eval:=List.map_congr_left fun x hx=>h x (by simp [Op.operands,Call.operands]; right; simpa using hx)
  rw [←h1,←h2]
  exact ha
 ·rename_i op hop
  rw [←Y1 o h]
  split at ha
  ·rcases ha with ha|ha
   ·exact .inl ha
   ·refine .inr ?_
    unfold Kb at ha ⊢
    split at ha
    ·rename_i t len parts hq
     rw [hq]at h
     have h2:(parts.toList.map fun(i,x)=>(i,fr.eval x))=(parts.toList.map fun(i,x)=>(i,fr'.eval x)):=List.map_congr_left fun x hx=>by
      have:=h x.2 (by simp [Op.operands]; exact⟨x.1,by simpa using hx⟩)
      simp only [this]
     rw [←h2]; exact ha
    ·exact ha
    ·rename_i dd x t tx hq
     rw [hq]at h
     have e1:=h dd (by simp [Op.operands,Call.operands])
     have e2:=h x (by simp [Op.operands,Call.operands])
     rw [←e1,←e2]; exact ha
    ·exact ha.elim
  ·exact ha.elim
theorem UY {P:Program} {gl:Nat→List V} {fr:AFr} {st st':St} {o:Oper} {v:V} {K:V→St→Prop} (h:xY P gl fr st o.op=some (v,st')) (hk:K v st'):pU P gl o fr st K:=by
 unfold pU
 split
 ·rename_i f args tys hop
  rw [hop]at h; simp [xY]at h
 ·rw [h]; exact .inl hk
theorem X3 (l:List (Nat×V)) (p:Nat→Bool) (t:Nat):wh (l.filter fun x=>p x.1) t=if p t then wh l t else .junk:=by
 induction l with
 |nil=>simp [wh]
 | cons x r ih=>
  obtain⟨k,y⟩:=x
  simp only [List.filter_cons]
  by_cases hk:p k=true
  ·simp only [hk,if_true,wh]
   by_cases ht:k=t
   ·subst ht; simp [hk]
   ·simp only [ht,if_false,ih]
  ·simp only [hk,wh,if_false,Bool.false_eq_true]
   by_cases ht:k=t
   ·subst ht; rw [ih,if_neg hk,if_neg hk]
   ·simp only [ht,if_false,ih]
theorem UF {α:Type} {p q:α→Bool}:∀(l:List α),(∀x∈l,q x=true→p x=true)→(∃x∈l,p x=true∧q x=false)→(l.filter q).length<(l.filter p).length
 | [],_,h=>by obtain⟨x,hx,_⟩:=h; cases hx
 | y ::r,h1,h2=>by
  have le:∀(r:List α),(∀x∈r,q x=true→p x=true)→(r.filter q).length≤(r.filter p).length:=by
   intro r
   induction r with
   |nil=>intro _; simp
   | cons z s ih=>
    intro h
    have:=ih (fun x hx=>h x (List.mem_cons_of_mem _ hx))
    simp only [List.filter_cons]
    cases hq:q z with
    |true=>rw [h z O2 hq]; simpa using this
    |false=>cases hp:p z<;>simp<;>omega
  simp only [List.filter_cons]
  obtain⟨x,hx,hp,hq⟩:=h2
  rcases List.mem_cons.1 hx with rfl|hx
  ·have:=le r (fun x hx=>h1 x (List.mem_cons_of_mem _ hx))
   simp [hp,hq]; omega
  ·have ih:=UF r (fun x hx=>h1 x (List.mem_cons_of_mem _ hx)) ⟨x,hx,hp,hq⟩
   cases hqy:q y with
   |true=>rw [h1 y O2 hqy]; simpa using ih
   |false=>cases hpy:p y<;>simp<;>omega
section
variable {P:Program} {gl:Nat→List V} {ops:Array Oper} {n:Nat} {order E:List Nat} {B:List (List Nat)}
structure Chk (ops:Array Oper) (n:Nat) (order E:List Nat) (B:List (List Nat)):Prop where
 nodup:order.Nodup
 len:order.length=ops.size
 all:∀i,i<ops.size→i∈order
 lt:∀i∈order,i<ops.size
 topo:∀p (h:p<order.length),∀k∈dp ops order[p],k∈order.take p
 clos:∀j,j<ops.size→∀i∈B.getD j [],i∈dp ops j∨∃k∈dp ops j,i∈B.getD k []
 dlt:∀i,i<ops.size→∀d,uY ops i=some d→d<n
 uniq:∀i j,i<ops.size→j<ops.size→i≠j→∀d,uY ops i=some d→uY ops j≠some d
 reads:∀i,i<ops.size→∀t∈dN ops i,∀k,k<ops.size→uY ops k=some t→k∈B.getD i []∨(k∈E∧(k=i∨i∈B.getD k []))
 guards:∀(i:Nat) (o:Oper) (g:Nat) (b:Bool),ops[i]? =some o→o.guard=some (g,b)→g∈B.getD i []∧(uY ops g).isSome=true
 waits:∀p (h:p<order.length),order[p]∈E→∀j∈order.drop (p+1),order[p]∈B.getD j []
theorem Chk.of (h:kf ops n order E B=true):Chk ops n order E B:=by
 simp only [kf,iE,List.all_eq_true,List.mem_range,decide_eq_true_eq,beq_iff_eq,List.contains_iff_mem,Bool.or_eq_true,List.any_eq_true,Bool.not_eq_true',List.contains_eq_mem,decide_eq_false_iff_not]at h
 obtain⟨⟨⟨⟨⟨⟨⟨⟨⟨h0,h1⟩,h2⟩,h3⟩,h4⟩,h5⟩,h6⟩,h7⟩,h8⟩,h9⟩:=h
 have getD:∀p (hp:p<order.length),order.getD p 0=order[p]:=fun p hp=>by simp [List.getD,hp]
 exact {
  nodup:=h0
  len:=h1
  all:=h2
  lt:=h3
  topo:=fun p hp k hk=>h4 p hp k (by rw [getD p hp]; exact hk)
  clos:=fun j hj i hi=>h5 j hj i hi
  dlt:=fun i hi d hd=>by
   have:=(h6 i hi).1
   rw [hd]at this; simpa using this
  uniq:=fun i j hi hj hne d hd hd'=>by
   have:=(h6 i hi).2 j hj
   rcases this with h|h
   ·exact hne h
   ·rw [hd,hd']at h; simp at h
  reads:=fun i hi t ht k hk hd=>by
   have:=h7 i hi t ht k hk
   rcases this with(h|h)|h
   ·rw [hd]at h; simp at h
   ·exact .inl h
   ·exact .inr h
  guards:=fun i o g b ho hg=>by
   have hi:i<ops.size:=(Array.getElem?_eq_some_iff.1 ho).1
   have:=h8 i hi
   rw [ho]at this
   simp only [hg,iE,List.contains_iff_mem]at this
   simpa using this
  waits:=fun p hp he j hj=>by
   have:=h9 p hp
   rw [getD p hp]at this
   rcases this with h|h
   ·exact absurd he h
   ·exact h j hj}
def Dn (listed:Array Bool) (i:Nat):Prop:=listed.getD i false=true
def Jr (ops:Array Oper) (listed:Array Bool):Prop:=∀j k,Dn listed j→k∈dp ops j→Dn listed k
theorem gM {l:List Nat} {p k:Nat} (h:k∈l.take p):∃q,q<p∧∃hq:q<l.length,l[q]=k:=by
 obtain⟨q,hq,he⟩:=List.getElem_of_mem h
 simp only [List.length_take]at hq
 exact⟨q,O0,O0,by rw [List.getElem_take]at he; exact he⟩
theorem Chk.before (c:Chk ops n order E B):∀p (h:p<order.length),∀i∈B.getD order[p] [],i∈order.take p:=by
 intro p
 induction p using Nat.strongRecOn with
 | _ p ih=>
  intro h i hi
  rcases c.clos _ (c.lt _ (List.getElem_mem h)) i hi with hd|⟨k,hk,hki⟩
  ·exact c.topo p h i hd
  ·obtain⟨q,hq,hql,rfl⟩:=gM (c.topo p h k hk)
   have:=ih q hq hql i hki
   exact(List.take_sublist_take_left O0).mem this
theorem Chk.closed (c:Chk ops n order E B) {listed:Array Bool} (hc:Jr ops listed):∀p (h:p<order.length),Dn listed order[p]→∀i∈B.getD order[p] [],Dn listed i:=by
 intro p
 induction p using Nat.strongRecOn with
 | _ p ih=>
  intro h hd i hi
  rcases c.clos _ (c.lt _ (List.getElem_mem h)) i hi with hdp|⟨k,hk,hki⟩
  ·exact hc _ _ hd hdp
  ·obtain⟨q,hq,hql,rfl⟩:=gM (c.topo p h k hk)
   exact ih q hq hql (hc _ _ hd hk) i hki
theorem Chk.ready (c:Chk ops n order E B) {listed:Array Bool} (hc:Jr ops listed) {j:Nat} (hj:j<ops.size) (hr:∀k∈dp ops j,Dn listed k):∀i∈B.getD j [],Dn listed i:=by
 intro i hi
 rcases c.clos j hj i hi with hd|⟨k,hk,hki⟩
 ·exact hr i hd
 ·have hkm:k<ops.size:=by
   obtain⟨p,hp,he⟩:=List.getElem_of_mem (c.all j hj)
   have:=c.topo p hp k (by rw [he]; exact hk)
   exact c.lt k (List.mem_of_mem_take this)
  obtain⟨p,hp,he⟩:=List.getElem_of_mem (c.all k hkm)
  exact c.closed hc p hp (by rw [he]; exact hr k hk) i (by rw [he]; exact hki)
theorem ZZ {F:AFr} {d t:Nat} {v:V} (hd:d<F.n):wh (F.put (some d) v).l t=if t=d then v else wh F.l t:=by
 simp only [AFr.put,hd,if_true,dz]
theorem DW (F:AFr) (d:Option Nat) (v:V):(F.put d v).n=F.n:=by
 cases d with
 |none=>rfl
 |some d=>simp only [AFr.put]; split<;>rfl
theorem Xs {F F':AFr} {o:Oper} (h:∀t∈KA o,wh F.l t=wh F'.l t):∀x∈o.op.operands,F.eval x=F'.eval x:=by
 intro x hx
 cases x with
 |tmp t=>exact h t (List.mem_filterMap.2 ⟨.tmp t,by simpa using hx,rfl⟩)
 |_=>rfl
theorem X1 {F F':AFr} {g:Nat} (h:∀d,uY ops g=some d→wh F.l d=wh F'.l d):ky ops F g=ky ops F' g:=by
 unfold ky
 cases ho:ops[g]? with
 |none=>rfl
 | some o=>
  simp only
  cases hd:o.dst with
  |none=>rfl
  |some d=>simp only; rw [h d (by simp [uY,ho,hd])]
theorem gk.congr {F F':AFr} {j:Nat} {st:St} {v:V} (h:∀t∈dN ops j,wh F.l t=wh F'.l t) (hs:gk P gl ops j F st v):gk P gl ops j F' st v:=by
 unfold gk at hs ⊢
 unfold dN at h
 cases ho:ops[j]? with
 |none=>rw [ho]at hs; exact hs
 | some o=>
  rw [ho]at hs h
  simp only at hs h ⊢
  have he:xY P gl F st o.op=xY P gl F' st o.op:=Y1 o (Xs fun t ht=>h t (by simp [ht]))
  cases hg:o.guard with
  |none=>rw [hg]at hs; simp only at hs ⊢; rw [←he]; exact hs
  | some q=>
   obtain⟨g,want⟩:=q
   rw [hg]at hs h
   simp only at hs h ⊢
   rw [←X1 (F:=F) (F':=F') (fun d hd=>h d (by simp [hd])),←he]
   exact hs
theorem Chk.not_read (c:Chk ops n order E B) {seen rest:List Nat} {i:Nat} (hs:order=seen.reverse++i::rest) (hi:i∉E) {j d:Nat} (hj:j∈seen) (hd:uY ops i=some d):d∉dN ops j:=by
 intro hr
 have him:i∈order:=by rw [hs]; simp
 have hjm:j∈order:=by rw [hs]; simp [hj]
 rcases c.reads j (c.lt j hjm) d hr i (c.lt i him) hd with h|h
 ·
  obtain⟨p,hp,he⟩:=List.getElem_of_mem hjm
  have hb:=c.before p hp i (by rw [he]; exact h)
  obtain⟨q,hq,hql,hqe⟩:=gM hb
  have hpl:p<seen.length:=by
   rcases Nat.lt_or_ge p seen.length with h1|h1
   ·exact h1
   ·exfalso
    have hnd:=c.nodup
    rw [hs]at hnd
    have hdis:=(List.nodup_append.1 hnd).2.2
    have:order[p]∈i::rest:=by
     subst hs
     rw [List.getElem_append_right (O7 h1)]
     exact List.getElem_mem _
    rw [he]at this
    exact hdis j (List.mem_reverse.2 hj) j this rfl
  have:order[q]∈seen:=by
   subst hs
   rw [List.getElem_append_left O3]
   exact List.mem_reverse.1 (List.getElem_mem _)
  rw [hqe]at this
  have hnd:=c.nodup
  rw [hs]at hnd
  exact(List.nodup_append.1 hnd).2.2 i (List.mem_reverse.2 this) i O2 rfl
 ·exact hi h.1
theorem ba.put (c:Chk ops n order E B) {seen rest:List Nat} {i:Nat} (hs:order=seen.reverse++i::rest) (hi:i∉E) {j:Nat} (hj:j∈seen) {F:AFr} (hn:F.n=n) {st:St} {v:V} (h:ba P gl ops j F st):
  ba P gl ops j (F.put (uY ops i) v) st:=by
 have him:i∈order:=by rw [hs]; simp
 have hjm:j∈order:=by rw [hs]; simp [hj]
 have hne:i≠j:=by
  rintro rfl
  have hnd:=c.nodup
  rw [hs]at hnd
  exact(List.nodup_append.1 hnd).2.2 i (List.mem_reverse.2 hj) i O2 rfl
 cases hd:uY ops i with
 |none=>exact h
 | some d=>
  have hdn:d<F.n:=by rw [hn]; exact c.dlt i (c.lt i him) d hd
  have heq:∀t∈dN ops j,wh F.l t=wh (F.put (some d) v).l t:=by
   intro t ht
   rw [ZZ hdn,if_neg]
   rintro rfl
   exact c.not_read hs hi hj hd ht
  unfold ba at h ⊢
  cases hdj:uY ops j with
  |none=>rw [hdj]at h; obtain⟨u,hu⟩:=h; exact⟨u,hu.congr heq⟩
  | some e=>
   rw [hdj]at h
   simp only at h ⊢
   have hne':e≠d:=by
    rintro rfl
    exact c.uniq i j (c.lt i him) (c.lt j hjm) hne e hd hdj
   rw [ZZ hdn,if_neg hne']
   exact h.congr heq
theorem Vo (c:Chk ops n order E B) {st:St} {K:AFr→St→Prop}:∀(rest seen:List Nat) (F:AFr),order=seen.reverse++rest→F.n=n→aD P gl ops E B rest seen F st K →
  ∃ rest' seen' F',order=seen'.reverse++rest'∧(∀e r,rest'=e::r→e∈E)∧(∀j∈seen,j∈seen')∧(∀j∈seen',j∉seen→j∉E∧ba P gl ops j F' st)∧aD P gl ops E B rest' seen' F' st K∧F'.n=n ∧
   (∀j∈seen,ba P gl ops j F st→ba P gl ops j F' st)∧(∀t,(∀j∈seen',j∉seen→uY ops j≠some t)→wh F'.l t=wh F.l t)
 | [],seen,F,hs,hn,h=>⟨[],seen,F,hs,O2,fun j hj=>hj,fun j hj hn=>absurd hj hn,h,hn,fun j _ h=>h,fun t _=>rfl⟩
 | i ::rest,seen,F,hs,hn,h=>by
  by_cases hi:i∈E
  ·exact⟨i::rest,seen,F,hs,by intro e r he; injection he with he _; exact he▸hi,fun j hj=>hj,fun j hj hn=>absurd hj hn,h,hn,fun j _ h=>h,fun t _=>rfl⟩
  ·simp only [aD]at h
   rw [if_neg (O7 hi)]at h
   obtain⟨v,hv,h⟩:=h
   have him:i∈order:=by rw [hs]; simp
   have hnd:=c.nodup
   have hnot:i∉seen:=by
    intro hj
    rw [hs]at hnd
    exact(List.nodup_append.1 hnd).2.2 i (List.mem_reverse.2 hj) i O2 rfl
   obtain⟨rest',seen',F',g1,g2,g3,g4,g5,g6,g7,g8⟩:=Vo c rest (i::seen) (F.put (uY ops i) v) (by rw [hs]; simp) (by rw [DW,hn]) h
   have hstill:ba P gl ops i (F.put (uY ops i) v) st:=by
    unfold ba
    cases hd:uY ops i with
    |none=>exact⟨v,by rw [hd]at *; exact hv⟩
    | some d=>
     have hdn:d<F.n:=by rw [hn]; exact c.dlt i (c.lt i him) d hd
     simp only
     rw [ZZ hdn,if_pos rfl]
     refine hv.congr ?_
     intro t ht
     rw [ZZ hdn,if_neg]
     rintro rfl
     rcases c.reads i (c.lt i him) t ht i (c.lt i him) hd with h'|h'
     ·obtain⟨p,hp,he⟩:=List.getElem_of_mem him
      have hb:=c.before p hp i (by rw [he]; exact h')
      obtain⟨q,hq,hql,hqe⟩:=gM hb
      have:=(List.getElem_inj (h₀:=hql) (h₁:=hp) hnd).1 (hqe.trans he.symm)
      omega
     ·exact hi h'.1
   refine⟨rest',seen',F',g1,g2,fun j hj=>g3 j (List.mem_cons_of_mem _ hj), ?_,g5,g6, ?_, ?_⟩
   ·intro j hj hjn
    by_cases hji:j=i
    ·subst hji; exact⟨hi,g7 j O2 hstill⟩
    ·exact g4 j hj (by simp [hji,hjn])
   ·intro j hj hh
    exact g7 j (List.mem_cons_of_mem _ hj) (ba.put c hs hi hj hn hh)
   ·intro t ht
    rw [g8 t (fun j hj hjn=>ht j hj (fun h=>hjn (List.mem_cons_of_mem _ h)))]
    cases hd:uY ops i with
    |none=>rfl
    | some d=>
     have hdn:d<F.n:=by rw [hn]; exact c.dlt i (c.lt i him) d hd
     rw [ZZ hdn,if_neg]
     rintro rfl
     exact ht i (g3 i O2) hnot hd
end
end Go.Abs
end
