/- Closed runs. No condition. -/
import Derived.Test.YtkabooclnoiclaaGreatDoorK05
set_option linter.all false
section
namespace Go.K
open Go.Abs
def jN (P:Program) (ng:Nat) (rd:Option Nat) (ops:Array Oper) (j:Nat) (fr:KFr) (h:KH) (v:KV):Prop:=
 match ops[j]? with
 |none=>False
 | some o=>match wR ops fr.l o with
  |some true=>KDo P ng rd o fr.l h v h
  |some false=>v= .tuple []
  |none=>False
def qJ (P:Program) (ng:Nat) (rd:Option Nat) (ops:Array Oper) (j:Nat) (fr:KFr) (h:KH):Prop:=
 match zQ ops j with
 |some d=>jN P ng rd ops j fr h (wD fr.l d)
 |none=>∃v,jN P ng rd ops j fr h v
def pw (P:Program) (ng:Nat) (rd:Option Nat) (ops:Array Oper) (E:List Nat) (Bi:List Nat):List Nat->KFr->KH->Prop
 | [],_,_=>True
 |j::r,fr,h=>(if E.contains j||Bi.contains j then True else qJ P ng rd ops j fr h)∧pw P ng rd ops E Bi r fr h
def oY (P:Program) (ng:Nat) (rd:Option Nat) (ops:Array Oper) (i:Nat) (fr:KFr) (h:KH) (K:KFr->KH->Prop):Prop:=
 match ops[i]? with
 |none=>False
 | some o=>match wR ops fr.l o with
  |some true=>∃v a,KDo P ng rd o fr.l h v a∧K (fr.put o.dst v) a
  |some false=>K (fr.put o.dst (.tuple [])) h
  |none=>False
section
variable {P:Program} {ng:Nat} {rd:Option Nat} {ops:Array Oper} {n:Nat} {order E:List Nat} {B:List (List Nat)}
def jH {F:KFr} {d t:Nat} {v:KV} (hd:d<F.n):wD (F.put (some d) v).l t=if t=d then v else wD F.l t:=by
 simp only [KFr.put,xn,Bool.cond_decide,hd,if_true,Wo]
def pV (F:KFr) (d:Option Nat) (v:KV):(F.put d v).n=F.n:=by
 cases d with
 |none=>rfl
 |some d=>simp only [KFr.put,xn,Bool.cond_decide]; split<;>rfl
def Qq (F:KFr) (d:Option Nat) (v:KV):(F.put d v).d=F.d:=by
 cases d with
 |none=>rfl
 |some d=>simp only [KFr.put,xn,Bool.cond_decide]; split<;>rfl
def j1 {F F':KFr} {o:Oper} (h:∀t∈qD o,wD F.l t=wD F'.l t):∀x∈o.op.operands,zp ng F.l x=zp ng F'.l x:=by
 intro x a
 cases x with
 |tmp t=>exact h t (List.mem_filterMap.2 ⟨.tmp t,by simpa using a,rfl⟩)
 |_=>rfl
def Kk {F F':KFr} {g:Nat} (h:∀d,zQ ops g=some d->wD F.l d=wD F'.l d):We ops F.l g=We ops F'.l g:=by
 unfold We
 cases hd:(ops[g]?).bind (·.dst)with
 |none=>rfl
 |some d=>simp only; rw [h d (by simpa [zQ] using hd)]
def ZX {F F':KFr} {j:Nat} {o:Oper} (c:ops[j]? =some o) (h:∀t∈xG ops j,wD F.l t=wD F'.l t):wR ops F.l o=wR ops F'.l o:=by
 unfold wR
 cases b:o.guard with
 |none=>rfl
 | some q=>
  obtain⟨g,a⟩:=q;simp only;rw [Kk (F:=F) (F':=F') fun d hd=>h d (by unfold xG; rw [c]; simp [b,hd])]
def jN.congr {F F':KFr} {j:Nat} {st:KH} {v:KV} (h:∀t∈xG ops j,wD F.l t=wD F'.l t) (a:jN P ng rd ops j F st v):jN P ng rd ops j F' st v:=by
 unfold jN at a ⊢
 cases b:ops[j]? with
 |none=>rw [b]at a; exact a
 | some o=>
  rw [b]at a;simp only at a ⊢;rw [<-ZX b h];split at a
  ·exact a.congr (j1 fun t c=>h t (by unfold xG; rw [b]; simp [c]))
  ·exact a
  ·exact a
end
section
variable {P:Program} {ng:Nat} {rd:Option Nat} {ops:Array Oper} {n:Nat} {order E:List Nat} {B:List (List Nat)}
end
section
variable {P:Program} {E:KE} {rd:Option Nat} {ops:Array Oper} {n:Nat} {order Es L:List Nat} {B:List (List Nat)}
structure pt (ops:Array Oper) (n:Nat) (order Es L:List Nat) (B:List (List Nat)):Prop where
 nodup:order.Nodup
 len:order.length=ops.size
 all:∀i,i<ops.size->i∈order
 lt:∀i∈order,i<ops.size
 topo:∀p (h:p<order.length),∀k∈dp ops order[p],k∈order.take p
 clos:∀j,j<ops.size->∀i∈B.getD j [],i∈dp ops j∨∃k∈dp ops j,i∈B.getD k []
 dlt:∀i,i<ops.size->∀d,zQ ops i=some d->d<n
 uniq:∀i j,i<ops.size->j<ops.size->i≠j->∀d,zQ ops i=some d->zQ ops j≠some d
 reads:∀i,i<ops.size->∀t∈xG ops i,∀k,k<ops.size->zQ ops k=some t->k∈B.getD i []∨(k∈Es∧(k=i∨i∈B.getD k []))
 waits:∀p (h:p<order.length),order[p]∈Es∨order[p]∈L->∀j∈order.drop (p+1),j∉L->order[p]∈B.getD j []
 late:∀i∈L,i<ops.size->i∉Es∧(∀o,ops[i]? =some o->o.guard=none)∧∀t∈xG ops i,∀k∈L,zQ ops k≠some t
def pt.before (c:pt ops n order Es L B):∀p (h:p<order.length),∀i∈B.getD order[p] [],i∈order.take p:=by
 intro p
 induction p using Nat.strongRecOn with
 | _ p j=>
  intro h i e;rcases c.clos _ (c.lt _ (List.getElem_mem h)) i e with hd|⟨k,f,a⟩
  ·exact c.topo p h i hd
  ·obtain⟨q,g,b,rfl⟩:=wZ (c.topo p h k f);have:=j q g b i a;exact(List.take_sublist_take_left (by omega)).mem this
def pt.closed (c:pt ops n order Es L B) {listed:Array Bool} (f:vn ops listed):∀p (h:p<order.length),Dn listed order[p]->∀i∈B.getD order[p] [],Dn listed i:=by
 intro p
 induction p using Nat.strongRecOn with
 | _ p m=>
  intro h hd i j;rcases c.clos _ (c.lt _ (List.getElem_mem h)) i j with a|⟨k,g,b⟩
  ·exact f _ _ hd a
  ·obtain⟨q,l,e,rfl⟩:=wZ (c.topo p h k g);exact m q l e (f _ _ hd g) i b
def pt.ready (c:pt ops n order Es L B) {listed:Array Bool} (m:vn ops listed) {j:Nat} (g:j<ops.size) (l:∀k∈dp ops j,Dn listed k):∀i∈B.getD j [],Dn listed i:=by
 intro i o;rcases c.clos j g i o with hd|⟨k,h,b⟩
 ·exact l i hd
 ·have e:k<ops.size:=by
   obtain⟨p,f,a⟩:=List.getElem_of_mem (c.all j g);have:=c.topo p f k (by rw [a]; exact h);exact c.lt k (List.mem_of_mem_take this)
  obtain⟨p,f,a⟩:=List.getElem_of_mem (c.all k e);exact c.closed m p f (by rw [a]; exact l k h) i (by rw [a]; exact b)
def pt.dn (c:pt ops n order Es L B) {listed:Array Bool} (a:vn ops listed) {j:Nat} (b:j<ops.size) (hd:Dn listed j):∀i∈B.getD j [],Dn listed i:=c.ready a b fun k e=>a j k hd e
def pt.seen (c:pt ops n order Es L B) {seen a:List Nat} (f:order=seen.reverse++a) {j:Nat} (m:j∈seen):∀i∈B.getD j [],i∈seen:=by
 intro i r;have h:j∈order:=by rw [f]; simp [m]
 obtain⟨p,s,l⟩:=List.getElem_of_mem h;have o:=c.before p s i (by rw [l]; exact r)
 have t:p<seen.length:=by
  rcases iS p seen.length with g|g
  ·exact g
  ·exfalso;have e:=c.nodup;rw [f]at e;have b:=(List.nodup_append.1 e).2.2
   have:order[p]∈a:=by
    subst f;rw [List.getElem_append_right (by simpa using g)];exact List.getElem_mem _
   rw [l]at this;exact b j (List.mem_reverse.2 m) j this rfl
 obtain⟨q,w,v,k⟩:=wZ o
 have:order[q]∈seen:=by
  subst f;rw [List.getElem_append_left (by simp; omega)];exact List.mem_reverse.1 (List.getElem_mem _)
 rw [k]at this; exact this
def pt.not_seen (c:pt ops n order Es L B) {seen a:List Nat} {i:Nat} (e:order=seen.reverse++a) (hi:i∈a):i∉seen:=by
 intro h;have b:=c.nodup;rw [e]at b;exact(List.nodup_append.1 b).2.2 i (List.mem_reverse.2 h) i hi rfl
def pt.not_read (c:pt ops n order Es L B) {seen a:List Nat} {i:Nat} (b:order=seen.reverse++i::a) (hi:i∉Es) {j d:Nat} (g:j∈seen) (hd:zQ ops i=some d):d∉xG ops j:=by
 intro k;have e:i∈order:=by rw [b]; simp
 have f:j∈order:=by rw [b]; simp [g]
 rcases c.reads j (c.lt j f) d k i (c.lt i e) hd with h|h
 ·exact c.not_seen b (by simp) (c.seen b g i h)
 ·exact hi h.1
def kD2 (P:Program) (E:KE) (rd:Option Nat) (ops:Array Oper) (Es L:List Nat) (B:List (List Nat)):List Nat->List Nat->KFr->KH->(KFr->KH->Prop)->Prop
 | [],_,fr,h,K=>K fr h
 | i::a,seen,fr,h,K=>
  if Es.contains i then oY P E.ng rd ops i fr h fun b e=>pw P E.ng rd ops (Es++L) (B.getD i []) seen b e∧kD2 P E rd ops Es L B a (i::seen) b e K
  else if L.contains i then ∃o tm c,ops[i]? =some o∧kal E fr.l o.op=some (tm,c)∧wY h=true∧pw P E.ng rd ops (Es++L) (B.getD i []) seen (fr.put o.dst (tm.at h.next)) (h.push (.cells false c))∧kD2 P E rd ops Es L B a (i::seen) (fr.put o.dst (tm.at h.next)) (h.push (.cells false c)) K
  else ∃v,jN P E.ng rd ops i fr h v∧kD2 P E rd ops Es L B a (i::seen) (fr.put (zQ ops i) v) h K
def pR {ng:Nat} {Bi:List Nat} {F:KFr} {st:KH}:∀ {l:List Nat},pw P ng rd ops (Es++L) Bi l F st->∀j∈l,j∉Es->j∉L->j∉Bi->qJ P ng rd ops j F st
 | [],_,j,a,_,_,_=>by cases a
 | x::l,b,j,a,c,e,f=>by
  simp only [pw]at b;rcases List.mem_cons.1 a with rfl|a
  ·have:=b.1;rw [iH (by simp only [Bool.or_eq_true,List.contains_iff_mem,List.mem_append,not_or]; exact⟨⟨c,e⟩,f⟩)]at this;exact this
  ·exact pR b.2 j a c e f
def eF (E:KE) (ops:Array Oper) (w0:xi) (F:KFr) (st:KH) (G:Gh) (w:World) (a:Act) (b j:Nat):Prop:=
 ∃ o tm e C f c,ops[j]? =some o∧kal E F.l o.op=some (tm,e)∧w.heap[b]? =some (.cells C f (0,0))∧w0.w.heap.size<=b∧UX st G b∧e.length<=c∧c<=C.size ∧
  (∀(i:Nat) (v:KV) (x:Value),e[i]? =some v->C[i]? =some x->KR G v x)∧∀d,o.dst=some d->∀(G':Gh) (id:Nat),G'.at_ id=some (b,0)->G'.room id=c->KR G' (tm.at id) (a.tmps.getD d undef)
def eF.turn {w0:xi} {F F':KFr} {st st':KH} {G G':Gh} {w w':World} {a f:Act} {b j:Nat} (h:eF E ops w0 F st G w a b j) (hF:∀t∈xG ops j,wD F.l t=wD F'.l t) (z:G.le G') (K:w'.heap[b]? =w.heap[b]?) (H:UX st' G' b)
  (A:∀d,zQ ops j=some d->f.tmps.getD d undef=a.tmps.getD d undef):eF E ops w0 F' st' G' w' f b j:=by
 obtain⟨o,tm,g,C,k,c,e,l,m,p,O,q,r,s,y⟩:=h;refine⟨o,tm,g,C,k,c,e, ?_,K.trans m,p,H,q,r,fun i v x M N=>(s i v x M N).le z,fun d hd=> ?_⟩
 ·rw [<-l];exact(Wa o.op (j1 fun t I=>hF t (by unfold xG; rw [e]; simp [I]))).symm
 ·rw [A d (by simp [zQ,e,hd])]; exact y d hd
structure WZ (P:Program) (E:KE) (rd:Option Nat) (Fn:Fence) (ops:Array Oper) (n:Nat) (order Es L:List Nat) (B:List (List Nat)) (w0:xi) (G0:Gh) (K:KFr->KH->Prop) (ab:Nat->Nat) (listed:Array Bool) (rest seen:List Nat) (F:KFr) (st:KH) (G:Gh) (w:World) (a:Act):Prop where
 size:listed.size=ops.size
 split:order=seen.reverse++rest
 doneSeen:∀i,Dn listed i->i∈seen∨i∈L
 effDone:∀i∈seen,i∈Es∨i∈L->Dn listed i
 closed:vn ops listed
 inv:∀j∈seen,¬Dn listed j->qJ P E.ng rd ops j F st
 ad:kD2 P E rd ops Es L B rest seen F st K
 rel:KRel w0 G st w
 defers:KDs G F.d a.defers
 tmps:a.tmps.size=F.n
 ahead:∀j∈L,Dn listed j->j∉seen->eF E ops w0 F st G w a (ab j) j
 inj:∀i∈L,∀j∈L,Dn listed i->Dn listed j->i∉seen->j∉seen->ab i=ab j->i=j
 slot:∀t,(∀j∈seen,¬Dn listed j->zQ ops j≠some t)->(∀j∈L,Dn listed j->j∉seen->zQ ops j≠some t)->KR G (wD F.l t) (a.tmps.getD t undef)
 n:F.n=n
 ext:G0.le G
 gl:Glob P G
 rd:RdR G rd Fn
def WZ.norm {Fn:Fence} {w0:xi} {G0:Gh} {K:KFr->KH->Prop} {ab:Nat->Nat} {listed:Array Bool} {w:World} {a:Act} (c:pt ops n order Es L B):∀(z seen:List Nat) (F:KFr) (st:KH) (G:Gh),WZ P E rd Fn ops n order Es L B w0 G0 K ab listed z seen F st G w a ->
  ∃rest' seen' F' st' G',WZ P E rd Fn ops n order Es L B w0 G0 K ab listed rest' seen' F' st' G' w a∧∀e r,rest'=e::r->e∈Es∨(e∈L∧¬Dn listed e)
 | [],seen,F,st,G,h=>⟨[],seen,F,st,G,h,by simp⟩
 | i :: z,seen,F,st,G,h=>by
  have hs:=h.split;have him:i∈order:=by rw [hs]; simp
  have s:=c.lt i him;have W:i∉seen:=c.not_seen hs (by simp)
  by_cases hE:i∈Es
  ·exact⟨i::z,seen,F,st,G,h,fun e r A=>by injection A with A _; subst A; exact .inl hE⟩
  by_cases S:i∈L
  ·by_cases hd:Dn listed i
   ·
    have m:=h.ad;simp only [kD2]at m;rw [iH (by simpa using hE),iI (by simpa using S)]at m;obtain⟨o,tm,cs,ho,hk,hroom,hst,m⟩:=m;obtain⟨o',tm',cs',C,el,room,X,U,hb,hsz,hf,hr1,hr2,hr3,hr4⟩:=h.ahead i S hd W;rw [ho]at X; cases X;rw [hk]at U; cases U;have N:zQ ops i=o.dst:=by simp [zQ,ho]
    have hn':st.next+1<65000:=by simpa [wY,xn] using hroom
    have H:=Gh.new_le G h.rel.fresh (ab i,0) room;have hrel:=h.rel.adopt hn' (room:=room) (o:= .cells false cs) hb (.inl hsz) (.inr hsz) hf (.cells hr1 (by omega) (fun _=> .zero _) (fun j v x q1 q2=>(hr3 j v x q1 (by simpa using q2)).le H));refine WZ.norm c z (i::seen) (F.put o.dst (tm.at st.next)) (st.push (.cells false cs)) _ {size:=h.size,split:=by rw [hs]; simp,doneSeen:=fun k hk=>(h.doneSeen k hk).imp (List.mem_cons_of_mem _) id,effDone:= ?_,closed:=h.closed,inv:= ?_,ad:=m,rel:=hrel,defers:=by rw [Qq]; exact h.defers.le H,tmps:=by rw [pV]; exact h.tmps,ahead:= ?_,inj:= ?_,slot:= ?_,n:=by rw [pV]; exact h.n,ext:=h.ext.trans H,gl:=h.gl.le H,rd:=h.rd.le H}
    ·intro j b A;rcases List.mem_cons.1 b with rfl|b
     ·exact hd
     ·exact h.effDone j b A
    ·intro j b M;rcases List.mem_cons.1 b with rfl|b
     ·exact absurd hd M
     ·exact pR hst j b (fun A=>M (h.effDone j b (.inl A))) (fun A=>M (h.effDone j b (.inr A))) (fun hb=>M (c.dn h.closed s hd j hb))
    ·intro j b f g;simp only [List.mem_cons,not_or]at g;refine(h.ahead j b f g.2).turn ?_ H rfl ?_ (fun _ _=>rfl)
     ·intro t ht
      cases I:o.dst with
      |none=>rfl
      | some d=>
       have l:d<F.n:=by rw [h.n]; exact c.dlt i s d (by rw [N,I])
       rw [jH l,iH];rintro rfl
       have T:j<ops.size:=by
        obtain⟨o',_,_,_,_,_,q,_⟩:=h.ahead j b f g.2;exact(Array.getElem?_eq_some_iff.1 q).1
       exact(c.late j b T).2.2 _ ht i S (by rw [N,I])
     ·obtain ⟨_,_,_,_,_,_,_,_,_,_,hfj,_⟩:=h.ahead j b f g.2;intro id x k e1 Z;rw [qS st h.rel.top]at e1
      by_cases hid:id=st.next
      ·subst hid;rw [Gh.new_at]at Z;injection Z with Z; injection Z with Z _;exact g.1 (h.inj i S j b hd f W g.2 Z).symm
      ·rw [iH hid]at e1
       have e3:G.at_ id=some (ab j,k):=by
        have:(G.new st.next (ab i,0) room).at_ id=G.at_ id:=iH hid;rw [<-this]; exact Z
       exact hfj id x k e1 e3
    ·intro x hx y hy hxd hyd O Q;simp only [List.mem_cons,not_or]at O Q;exact h.inj x hx y hy hxd hyd O.2 Q.2
    ·intro t Y ht2
     have old:o.dst≠some t->KR G (wD F.l t) (a.tmps.getD t undef):=fun hne=>h.slot t (fun j b=>Y j (List.mem_cons_of_mem _ b)) (fun j b f g=>by
      by_cases hji:j=i
      ·subst hji; rw [N]; exact hne
      ·exact ht2 j b f (by simp [hji,g]))
     cases I:o.dst with
     |none=>exact(old (by rw [I]; simp)).le H
     | some d=>
      have l:d<F.n:=by rw [h.n]; exact c.dlt i s d (by rw [N,I])
      rw [jH l]
      by_cases htd:t=d
      ·subst htd;rw [iI rfl];exact hr4 t I _ _ (Gh.new_at _ _ _ _) (Gh.new_room _ _ _ _)
      ·rw [iH htd];exact(old (by rw [I]; intro q; injection q with q; exact htd q.symm)).le H
   ·exact⟨i::z,seen,F,st,G,h,fun e r A=>by injection A with A _; subst A; exact .inr ⟨S,hd⟩⟩
  ·
   have M:¬Dn listed i:=fun hd=>(h.doneSeen i hd).elim W S;have m:=h.ad;simp only [kD2]at m;rw [iH (by simpa using hE),iH (by simpa using S)]at m;obtain⟨v,hv,m⟩:=m
   have hstill:qJ P E.ng rd ops i (F.put (zQ ops i) v) st:=by
    unfold qJ
    cases hd:zQ ops i with
    |none=>exact⟨v,by rw [hd]at *; exact hv⟩
    | some d=>
     have l:d<F.n:=by rw [h.n]; exact c.dlt i s d hd
     simp only;rw [jH l,iI rfl];refine hv.congr ?_;intro t ht;rw [jH l,iH];rintro rfl;rcases c.reads i s t ht i s hd with h'|h'
     ·obtain⟨p,hp,A⟩:=List.getElem_of_mem him;have hb:=c.before p hp i (by rw [A]; exact h');obtain⟨q,hq,hql,hqe⟩:=wZ hb;have:=(List.getElem_inj (h₀:=hql) (h₁:=hp) c.nodup).1 (hqe.trans A.symm);omega
     ·exact hE h'.1
   have keepF:∀j,(∀d,zQ ops i=some d->d∉xG ops j)->∀t∈xG ops j,wD F.l t=wD (F.put (zQ ops i) v).l t:=by
    intro j b t ht
    cases hd:zQ ops i with
    |none=>rfl
    | some d=>
     have l:d<F.n:=by rw [h.n]; exact c.dlt i s d hd
     rw [jH l,iH];rintro rfl;exact b t hd ht
   refine WZ.norm c z (i::seen) (F.put (zQ ops i) v) st G {size:=h.size,split:=by rw [hs]; simp,doneSeen:=fun k hk=>(h.doneSeen k hk).imp (List.mem_cons_of_mem _) id,effDone:= ?_,closed:=h.closed,inv:= ?_,ad:=m,rel:=h.rel,defers:=by rw [Qq]; exact h.defers,tmps:=by rw [pV]; exact h.tmps,ahead:= ?_,inj:= ?_,slot:= ?_,n:=by rw [pV]; exact h.n,ext:=h.ext,gl:=h.gl,rd:=h.rd}
   ·intro j b A;rcases List.mem_cons.1 b with rfl|b
    ·exact(A.elim hE S).elim
    ·exact h.effDone j b A
   ·intro j b f;rcases List.mem_cons.1 b with rfl|b
    ·exact hstill
    ·have hh:=h.inv j b f;have heq:=keepF j fun d hd=>c.not_read hs hE b hd;unfold qJ at hh ⊢
     cases hdj:zQ ops j with
     |none=>rw [hdj]at hh; obtain⟨u,hu⟩:=hh; exact⟨u,hu.congr heq⟩
     | some e=>
      rw [hdj]at hh;simp only at hh ⊢;have hjm:j∈order:=by rw [hs]; simp [b]
      have hsame:wD (F.put (zQ ops i) v).l e=wD F.l e:=by
       cases hd:zQ ops i with
       |none=>rfl
       | some d=>
        have l:d<F.n:=by rw [h.n]; exact c.dlt i s d hd
        rw [jH l,iH];rintro rfl;exact c.uniq i j s (c.lt j hjm) (fun q=>W (q▸b)) e hd hdj
      rw [hsame];exact hh.congr heq
   ·intro j b f g;simp only [List.mem_cons,not_or]at g;have hA:=h.ahead j b f g.2;obtain⟨_,_,_,_,_,_,q,_,_,_,hfj,_⟩:=id hA;have T:j<ops.size:=(Array.getElem?_eq_some_iff.1 q).1;refine hA.turn (keepF j fun d hd hr=> ?_) (.refl _) rfl hfj (fun _ _=>rfl);rcases c.reads j T d hr i s hd with h1|h1
    ·exact M (c.dn h.closed T f i h1)
    ·exact hE h1.1
   ·intro x hx y hy hxd hyd O Q;simp only [List.mem_cons,not_or]at O Q;exact h.inj x hx y hy hxd hyd O.2 Q.2
   ·intro t Y ht2;have hdi:=Y i (by simp) M
    have hsame:wD (F.put (zQ ops i) v).l t=wD F.l t:=by
     cases hd:zQ ops i with
     |none=>rfl
     | some d=>
      have l:d<F.n:=by rw [h.n]; exact c.dlt i s d hd
      rw [jH l,iH];rintro rfl;exact hdi hd
    rw [hsame]
    exact h.slot t (fun j b=>Y j (List.mem_cons_of_mem _ b)) (fun j b f g=>ht2 j b f (by
     simp only [List.mem_cons,not_or]
     exact⟨fun q=>S (q▸b),g⟩))
end
end Go.K
end
