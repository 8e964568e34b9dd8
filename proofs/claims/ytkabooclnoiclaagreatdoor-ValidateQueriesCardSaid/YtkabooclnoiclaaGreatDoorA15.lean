/- Abstract values. No condition. -/
import Derived.Test.YtkabooclnoiclaaGreatDoorA14
set_option linter.all false
section
namespace Go.Abs
open Go.RowKit (Below)
def W3 {P:Program} (st:St) (b:Builtin) (args:List Operand) (tys:List TypeId) {ev ev':Operand->V} (h:∀x∈args,ev x=ev' x):jW P st b args tys ev=jW P st b args tys ev':=by
 have a:args.map ev=args.map ev':=List.map_congr_left h;unfold jW;split
 ·rename_i x t tx;rw [h x O2]
 ·rw [a]
def Zj {P:Program} {gl:Nat->List V} {fr fr':AFr} {st:St} (o:Oper) (h:∀x∈o.op.operands,fr.eval x=fr'.eval x):xc P gl fr st o.op=xc P gl fr' st o.op:=by
 obtain⟨dst,op,z,w,after,guard⟩:=o;simp only at h ⊢;cases op<;>simp only [xc]
 case call c=>
  obtain⟨callee,e,tys⟩:=c
  cases callee with
  | builtin b=>
   have:e.toList.map fr.eval=e.toList.map fr'.eval:=List.map_congr_left fun x g=>h x (by simp [Op.operands,Call.operands]; simpa using g);exact W3 st b e.toList tys.toList fun x g=>h x (by simp [Op.operands,Call.operands]; simpa using g)
  |_=>rfl
 case build t a=>
  have:(a.toList.map fun(i,x)=>(i,fr.eval x))=(a.toList.map fun(i,x)=>(i,fr'.eval x)):=List.map_congr_left fun x g=>by
   have:=h x.2 (by simp [Op.operands]; exact⟨x.1,by simpa using g⟩);simp only [this]
  simp only [this]
 case buildSlice t n a=>
  have:(a.toList.map fun(i,x)=>(i,fr.eval x))=(a.toList.map fun(i,x)=>(i,fr'.eval x)):=List.map_congr_left fun x g=>by
   have:=h x.2 (by simp [Op.operands]; exact⟨x.1,by simpa using g⟩);simp only [this]
  simp only [this]
 case makeFunc fn first captured=>
  have j:first.toList.map fr.eval=first.toList.map fr'.eval:=List.map_congr_left fun x g=>h x (by simp [Op.operands]; left; simpa using g)
  have l:captured.toList.map fr.eval=captured.toList.map fr'.eval:=List.map_congr_left fun x g=>h x (by simp [Op.operands]; right; simpa using g);simp only [j,l]
 case slice t x lo p mx=>
  have q:fr.eval x=fr'.eval x:=h x (by simp [Op.operands]);have j:lo.map fr.eval=lo.map fr'.eval:=by cases lo with|none=>rfl|some y=>simp; exact h y (by simp [Op.operands])
  have l:p.map fr.eval=p.map fr'.eval:=by cases p with|none=>rfl|some y=>simp; exact h y (by simp [Op.operands])
  have v:mx.map fr.eval=mx.map fr'.eval:=by cases mx with|none=>rfl|some y=>simp; exact h y (by simp [Op.operands])
  simp only [q,j,l,v]
 case pick c x y=>simp only [h c (by simp [Op.operands]),h x (by simp [Op.operands]),h y (by simp [Op.operands])]
 case store t x y=>simp only [h x (by simp [Op.operands]),h y (by simp [Op.operands])]
 case binOp op t x y yt=>simp only [h x (by simp [Op.operands]),h y (by simp [Op.operands])]
 case makeSlice t x y=>simp only [h x (by simp [Op.operands]),h y (by simp [Op.operands])]
 case indexAddr t x y=>simp only [h x (by simp [Op.operands]),h y (by simp [Op.operands])]
 case index t x y=>simp only [h x (by simp [Op.operands]),h y (by simp [Op.operands])]
 case move x=>simp only [h x (by simp [Op.operands])]
 case assign x=>simp only [h x (by simp [Op.operands])]
 case box t x=>simp only [h x (by simp [Op.operands])]
 case load t x=>simp only [h x (by simp [Op.operands])]
 case nilCheck x=>simp only [h x (by simp [Op.operands])]
 case unOp op t x=>simp only [h x (by simp [Op.operands])]
 case convert s d x=>simp only [h x (by simp [Op.operands])]
 case extract x i=>simp only [h x (by simp [Op.operands])]
 case fieldAddr s x f=>simp only [h x (by simp [Op.operands])]
 case field s x f=>simp only [h x (by simp [Op.operands])]
 case mapUpdate t m k x=>simp only [h m (by simp [Op.operands]),h k (by simp [Op.operands]),h x (by simp [Op.operands])]
 case lookup t m k ok=>simp only [h m (by simp [Op.operands]),h k (by simp [Op.operands])]
 case range t x=>simp only [h x (by simp [Op.operands])]
 case makeMap t r=>cases r<;>rfl
 case next it b=>cases b<;>simp only [h it (by simp [Op.operands])]
def D1 {P:Program} {gl:Nat->List V} {fr fr':AFr} {st:St} {o:Oper} {K:V->St->Prop} (h:∀x∈o.op.operands,fr.eval x=fr'.eval x) (a:gI P gl o fr st K):gI P gl o fr' st K:=by
 unfold gI at a ⊢;split at a
 ·rename_i f c tys e;rw [e]at h;have k:fr.eval f=fr'.eval f:=h f (by simp [Op.operands,Call.operands]);have g:c.toList.map fr.eval=c.toList.map fr'.eval:=List.map_congr_left fun x j=>h x (by simp [Op.operands,Call.operands]; right; simpa using j);rw [<-k,<-g];exact a
 ·rename_i op e;rw [<-Zj o h];split at a
  ·rcases a with a|a
   ·exact .inl a
   ·refine .inr ?_;unfold nZ at a ⊢;split at a
    ·rename_i t len b l;rw [l]at h
     have g:(b.toList.map fun(i,x)=>(i,fr.eval x))=(b.toList.map fun(i,x)=>(i,fr'.eval x)):=List.map_congr_left fun x j=>by
      have:=h x.2 (by simp [Op.operands]; exact⟨x.1,by simpa using j⟩);simp only [this]
     rw [<-g]; exact a
    ·exact a.elim
  ·exact a.elim
def J7 {P:Program} {gl:Nat->List V} {fr:AFr} {st st':St} {o:Oper} {v:V} {K:V->St->Prop} (h:xc P gl fr st o.op=some (v,st')) (c:K v st'):gI P gl o fr st K:=by
 unfold gI;split
 ·rename_i f b tys a;rw [a]at h; simp [xc]at h
 ·rw [h]; exact .inl c
def Y5 (l:List (Nat×V)) (p:Nat->Bool) (t:Nat):yG (l.filter fun x=>p x.1) t=if p t then yG l t else .junk:=by
 induction l with
 |nil=>simp [yG]
 | cons x r c=>
  obtain⟨k,y⟩:=x;simp only [List.filter_cons]
  by_cases a:p k=true
  ·simp only [a,if_true,yG]
   by_cases b:k=t
   ·subst b; simp [a]
   ·simp only [b,if_false,c]
  ·simp only [a,yG,if_false,iT]
   by_cases b:k=t
   ·subst b; rw [c,iH a,iH a]
   ·simp only [b,if_false,c]
def filter_lt {α:Type} {p q:α->Bool}:∀(l:List α),(∀x∈l,q x=true->p x=true)->(∃x∈l,p x=true∧q x=false)->(l.filter q).length<(l.filter p).length
 | [],_,h=>by obtain⟨x,a,_⟩:=h; cases a
 | y ::r,c,i=>by
  have le:∀(r:List α),(∀x∈r,q x=true->p x=true)->(r.filter q).length<=(r.filter p).length:=by
   intro r
   induction r with
   |nil=>intro _; simp
   | cons z s g=>
    intro h;have:=g (fun x a=>h x (List.mem_cons_of_mem _ a));simp only [List.filter_cons]
    cases b:q z with
    |true=>rw [h z O2 b]; simpa using this
    |false=>cases e:p z<;>simp<;>omega
  simp only [List.filter_cons];obtain⟨x,a,e,b⟩:=i;rcases List.mem_cons.1 a with rfl|a
  ·have:=le r (fun x a=>c x (List.mem_cons_of_mem _ a));simp [e,b]; omega
  ·have g:=filter_lt r (fun x a=>c x (List.mem_cons_of_mem _ a)) ⟨x,a,e,b⟩
   cases f:q y with
   |true=>rw [c y O2 f]; simpa using g
   |false=>cases j:p y<;>simp<;>omega
section
variable {P:Program} {gl:Nat->List V} {ops:Array Oper} {n:Nat} {order E:List Nat} {B:List (List Nat)}
structure Chk (ops:Array Oper) (n:Nat) (order E:List Nat) (B:List (List Nat)):Prop where
 nodup:order.Nodup
 len:order.length=ops.size
 all:∀i,i<ops.size->i∈order
 lt:∀i∈order,i<ops.size
 topo:∀p (h:p<order.length),∀k∈dp ops order[p],k∈order.take p
 clos:∀j,j<ops.size->∀i∈B.getD j [],i∈dp ops j∨∃k∈dp ops j,i∈B.getD k []
 dlt:∀i,i<ops.size->∀d,zQ ops i=some d->d<n
 uniq:∀i j,i<ops.size->j<ops.size->i≠j->∀d,zQ ops i=some d->zQ ops j≠some d
 reads:∀i,i<ops.size->∀t∈xG ops i,∀k,k<ops.size->zQ ops k=some t->k∈B.getD i []∨(k∈E∧(k=i∨i∈B.getD k []))
 guards:∀(i:Nat) (o:Oper) (g:Nat) (b:Bool),ops[i]? =some o->o.guard=some (g,b)->g∈B.getD i []∧(zQ ops g).isSome=true
 waits:∀p (h:p<order.length),order[p]∈E->∀j∈order.drop (p+1),order[p]∈B.getD j []
def Chk.of (h:kR ops n order E B=true):Chk ops n order E B:=by
 simp only [kR,iF,List.all_eq_true,List.mem_range,iJ,beq_iff_eq,List.contains_iff_mem,Bool.or_eq_true,List.any_eq_true,Bool.not_eq_true',List.contains_eq_mem,decide_eq_false_iff_not]at h;obtain⟨⟨⟨⟨⟨⟨⟨⟨⟨s,v⟩,w⟩,x⟩,y⟩,z⟩,q⟩,A⟩,C⟩,F⟩:=h;have getD:∀p (c:p<order.length),order.getD p 0=order[p]:=fun p c=>by simp [List.getD,c]
 exact {
  nodup:=s
  len:=v
  all:=w
  lt:=x
  topo:=fun p c k l=>y p c k (by rw [getD p c]; exact l)
  clos:=fun j e i a=>z j e i a
  dlt:=fun i a d hd=>by
   have:=(q i a).1;rw [hd]at this; simpa using this
  uniq:=fun i j a e m d hd f=>by
   have:=(q i a).2 j e;rcases this with h|h
   ·exact m h
   ·rw [hd,f]at h; simp at h
  reads:=fun i a t I k l hd=>by
   have:=A i a t I k l;rcases this with(h|h)|h
   ·rw [hd]at h; simp at h
   ·exact .inl h
   ·exact .inr h
  guards:=fun i o g b r H=>by
   have a:i<ops.size:=(Array.getElem?_eq_some_iff.1 r).1;have:=C i a;rw [r]at this;simp only [H,iF,List.contains_iff_mem]at this;simpa using this
  waits:=fun p c G j e=>by
   have:=F p c;rw [getD p c]at this;rcases this with h|h
   ·exact absurd G h
   ·exact h j e}
def Dn (listed:Array Bool) (i:Nat):Prop:=listed.getD i false=true
def vn (ops:Array Oper) (listed:Array Bool):Prop:=∀j k,Dn listed j->k∈dp ops j->Dn listed k
def wZ {l:List Nat} {p k:Nat} (h:k∈l.take p):∃q,q<p∧∃b:q<l.length,l[q]=k:=by
 obtain⟨q,b,a⟩:=List.getElem_of_mem h;simp only [List.length_take]at b;exact⟨q,O0,O0,by rw [List.getElem_take]at a; exact a⟩
def Chk.before (c:Chk ops n order E B):∀p (h:p<order.length),∀i∈B.getD order[p] [],i∈order.take p:=by
 intro p
 induction p using Nat.strongRecOn with
 | _ p j=>
  intro h i e;rcases c.clos _ (c.lt _ (List.getElem_mem h)) i e with hd|⟨k,f,a⟩
  ·exact c.topo p h i hd
  ·obtain⟨q,g,b,rfl⟩:=wZ (c.topo p h k f);have:=j q g b i a;exact(List.take_sublist_take_left O0).mem this
def Chk.closed (c:Chk ops n order E B) {listed:Array Bool} (f:vn ops listed):∀p (h:p<order.length),Dn listed order[p]->∀i∈B.getD order[p] [],Dn listed i:=by
 intro p
 induction p using Nat.strongRecOn with
 | _ p m=>
  intro h hd i j;rcases c.clos _ (c.lt _ (List.getElem_mem h)) i j with a|⟨k,g,b⟩
  ·exact f _ _ hd a
  ·obtain⟨q,l,e,rfl⟩:=wZ (c.topo p h k g);exact m q l e (f _ _ hd g) i b
def Chk.ready (c:Chk ops n order E B) {listed:Array Bool} (m:vn ops listed) {j:Nat} (g:j<ops.size) (l:∀k∈dp ops j,Dn listed k):∀i∈B.getD j [],Dn listed i:=by
 intro i o;rcases c.clos j g i o with hd|⟨k,h,b⟩
 ·exact l i hd
 ·have e:k<ops.size:=by
   obtain⟨p,f,a⟩:=List.getElem_of_mem (c.all j g);have:=c.topo p f k (by rw [a]; exact h);exact c.lt k (List.mem_of_mem_take this)
  obtain⟨p,f,a⟩:=List.getElem_of_mem (c.all k e);exact c.closed m p f (by rw [a]; exact l k h) i (by rw [a]; exact b)
def gY {F:AFr} {d t:Nat} {v:V} (hd:d<F.n):yG (F.put (some d) v).l t=if t=d then v else yG F.l t:=by
 simp only [AFr.put,hd,if_true,bj]
def tM (F:AFr) (d:Option Nat) (v:V):(F.put d v).n=F.n:=by
 cases d with
 |none=>rfl
 |some d=>simp only [AFr.put]; split<;>rfl
def Z4 {F F':AFr} {o:Oper} (h:∀t∈qD o,yG F.l t=yG F'.l t):∀x∈o.op.operands,F.eval x=F'.eval x:=by
 intro x a
 cases x with
 |tmp t=>exact h t (List.mem_filterMap.2 ⟨.tmp t,by simpa using a,rfl⟩)
 |_=>rfl
def Y1 {F F':AFr} {g:Nat} (h:∀d,zQ ops g=some d->yG F.l d=yG F'.l d):uM ops F g=uM ops F' g:=by
 unfold uM
 cases a:ops[g]? with
 |none=>rfl
 | some o=>
  simp only
  cases hd:o.dst with
  |none=>rfl
  |some d=>simp only; rw [h d (by simp [zQ,a,hd])]
def jI.congr {F F':AFr} {j:Nat} {st:St} {v:V} (h:∀t∈xG ops j,yG F.l t=yG F'.l t) (a:jI P gl ops j F st v):jI P gl ops j F' st v:=by
 unfold jI at a ⊢;unfold xG at h
 cases e:ops[j]? with
 |none=>rw [e]at a; exact a
 | some o=>
  rw [e]at a h;simp only at a h ⊢;have b:xc P gl F st o.op=xc P gl F' st o.op:=Zj o (Z4 fun t i=>h t (by simp [i]))
  cases c:o.guard with
  |none=>rw [c]at a; simp only at a ⊢; rw [<-b]; exact a
  | some q=>
   obtain⟨g,f⟩:=q;rw [c]at a h;simp only at a h ⊢;rw [<-Y1 (F:=F) (F':=F') (fun d hd=>h d (by simp [hd])),<-b];exact a
def Chk.not_read (c:Chk ops n order E B) {seen b:List Nat} {i:Nat} (e:order=seen.reverse++i::b) (hi:i∉E) {j d:Nat} (r:j∈seen) (hd:zQ ops i=some d):d∉xG ops j:=by
 intro x;have l:i∈order:=by rw [e]; simp
 have g:j∈order:=by rw [e]; simp [r]
 rcases c.reads j (c.lt j g) d x i (c.lt i l) hd with h|h
 ·
  obtain⟨p,t,o⟩:=List.getElem_of_mem g;have s:=c.before p t i (by rw [o]; exact h);obtain⟨q,y,w,m⟩:=wZ s
  have v:p<seen.length:=by
   rcases iS p seen.length with k|k
   ·exact k
   ·exfalso;have a:=c.nodup;rw [e]at a;have f:=(List.nodup_append.1 a).2.2
    have:order[p]∈i::b:=by
     subst e;rw [List.getElem_append_right (O7 k)];exact List.getElem_mem _
    rw [o]at this;exact f j (List.mem_reverse.2 r) j this rfl
  have:order[q]∈seen:=by
   subst e;rw [List.getElem_append_left O3];exact List.mem_reverse.1 (List.getElem_mem _)
  rw [m]at this;have a:=c.nodup;rw [e]at a;exact(List.nodup_append.1 a).2.2 i (List.mem_reverse.2 this) i O2 rfl
 ·exact hi h.1
def u5.put (c:Chk ops n order E B) {seen m:List Nat} {i:Nat} (o:order=seen.reverse++i::m) (hi:i∉E) {j:Nat} (p:j∈seen) {F:AFr} (s:F.n=n) {st:St} {v:V} (h:u5 P gl ops j F st):
  u5 P gl ops j (F.put (zQ ops i) v) st:=by
 have g:i∈order:=by rw [o]; simp
 have q:j∈order:=by rw [o]; simp [p]
 have r:i≠j:=by
  rintro rfl;have k:=c.nodup;rw [o]at k;exact(List.nodup_append.1 k).2.2 i (List.mem_reverse.2 p) i O2 rfl
 cases hd:zQ ops i with
 |none=>exact h
 | some d=>
  have b:d<F.n:=by rw [s]; exact c.dlt i (c.lt i g) d hd
  have f:∀t∈xG ops j,yG F.l t=yG (F.put (some d) v).l t:=by
   intro t w;rw [gY b,iH];rintro rfl;exact c.not_read o hi p hd w
  unfold u5 at h ⊢
  cases a:zQ ops j with
  |none=>rw [a]at h; obtain⟨u,x⟩:=h; exact⟨u,x.congr f⟩
  | some e=>
   rw [a]at h;simp only at h ⊢
   have l:e≠d:=by
    rintro rfl;exact c.uniq i j (c.lt i g) (c.lt j q) r e hd a
   rw [gY b,iH l];exact h.congr f
def J9 (c:Chk ops n order E B) {st:St} {K:AFr->St->Prop}:∀(b seen:List Nat) (F:AFr),order=seen.reverse++b->F.n=n->aD P gl ops E B b seen F st K ->
  ∃ rest' seen' F',order=seen'.reverse++rest'∧(∀e r,rest'=e::r->e∈E)∧(∀j∈seen,j∈seen')∧(∀j∈seen',j∉seen->j∉E∧u5 P gl ops j F' st)∧aD P gl ops E B rest' seen' F' st K∧F'.n=n ∧
   (∀j∈seen,u5 P gl ops j F st->u5 P gl ops j F' st)∧(∀t,(∀j∈seen',j∉seen->zQ ops j≠some t)->yG F'.l t=yG F.l t)
 | [],seen,F,o,g,h=>⟨[],seen,F,o,O2,fun j a=>a,fun j a g=>absurd a g,h,g,fun j _ h=>h,fun t _=>rfl⟩
 | i ::b,seen,F,o,g,h=>by
  by_cases w:i∈E
  ·exact⟨i::b,seen,F,o,by intro e r s; injection s with s _; exact s▸w,fun j a=>a,fun j a g=>absurd a g,h,g,fun j _ h=>h,fun t _=>rfl⟩
  ·simp only [aD]at h;rw [iH (O7 w)]at h;obtain⟨v,M,h⟩:=h;have f:i∈order:=by rw [o]; simp
   have m:=c.nodup
   have y:i∉seen:=by
    intro a;rw [o]at m;exact(List.nodup_append.1 m).2.2 i (List.mem_reverse.2 a) i O2 rfl
   obtain⟨rest',seen',F',N,O,H,Q,S,T,I,U⟩:=J9 c b (i::seen) (F.put (zQ ops i) v) (by rw [o]; simp) (by rw [tM,g]) h
   have hstill:u5 P gl ops i (F.put (zQ ops i) v) st:=by
    unfold u5
    cases hd:zQ ops i with
    |none=>exact⟨v,by rw [hd]at *; exact M⟩
    | some d=>
     have k:d<F.n:=by rw [g]; exact c.dlt i (c.lt i f) d hd
     simp only;rw [gY k,iI rfl];refine M.congr ?_;intro t z;rw [gY k,iH];rintro rfl;rcases c.reads i (c.lt i f) t z i (c.lt i f) hd with A|A
     ·obtain⟨p,L,s⟩:=List.getElem_of_mem f;have W:=c.before p L i (by rw [s]; exact A);obtain⟨q,Y,G,C⟩:=wZ W;have:=(List.getElem_inj (h₀:=G) (h₁:=L) m).1 (C.trans s.symm);omega
     ·exact w A.1
   refine⟨rest',seen',F',N,O,fun j a=>H j (List.mem_cons_of_mem _ a), ?_,S,T, ?_, ?_⟩
   ·intro j a l
    by_cases x:j=i
    ·subst x; exact⟨w,I j O2 hstill⟩
    ·exact Q j a (by simp [x,l])
   ·intro j a X;exact I j (List.mem_cons_of_mem _ a) (u5.put c o w a g X)
   ·intro t z;rw [U t (fun j a l=>z j a (fun h=>l (List.mem_cons_of_mem _ h)))]
    cases hd:zQ ops i with
    |none=>rfl
    | some d=>
     have k:d<F.n:=by rw [g]; exact c.dlt i (c.lt i f) d hd
     rw [gY k,iH];rintro rfl;exact z i (H i O2) y hd
end
end Go.Abs
end
