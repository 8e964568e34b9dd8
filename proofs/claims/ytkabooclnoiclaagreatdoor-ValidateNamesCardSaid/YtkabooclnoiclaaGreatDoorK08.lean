/- The layer of closed runs: a part. No condition beyond each statement's own. -/
import Derived.Test.YtkabooclnoiclaaGreatDoorK07
set_option linter.unusedVariables false
set_option linter.unusedSimpArgs false
set_option linter.unnecessarySimpa false
section
namespace Go.K
open Go.Abs
def wf (P:Program) (ng:Nat) (rd:Option Nat) (ops:Array Oper) (j:Nat) (fr:KFr) (h:KH) (v:KV):Prop:=
 match ops[j]? with
 |none=>False
 | some o=>match yE ops fr.l o with
  |some true=>KDo P ng rd o fr.l h v h
  |some false=>v= .tuple []
  |none=>False
def xA (P:Program) (ng:Nat) (rd:Option Nat) (ops:Array Oper) (j:Nat) (fr:KFr) (h:KH):Prop:=
 match zk ops j with
 |some d=>wf P ng rd ops j fr h (yj fr.l d)
 |none=>∃v,wf P ng rd ops j fr h v
def uE (P:Program) (ng:Nat) (rd:Option Nat) (ops:Array Oper) (E:List Nat) (Bi:List Nat):List Nat→KFr→KH→Prop
 | [],_,_=>True
 |j::r,fr,h=>(if E.contains j||Bi.contains j then True else xA P ng rd ops j fr h)∧uE P ng rd ops E Bi r fr h
def Bu (P:Program) (ng:Nat) (rd:Option Nat) (ops:Array Oper) (i:Nat) (fr:KFr) (h:KH) (K:KFr→KH→Prop):Prop:=
 match ops[i]? with
 |none=>False
 | some o=>match yE ops fr.l o with
  |some true=>∃v h1,KDo P ng rd o fr.l h v h1∧K (fr.put o.dst v) h1
  |some false=>K (fr.put o.dst (.tuple [])) h
  |none=>False
def kD (P:Program) (ng:Nat) (rd:Option Nat) (ops:Array Oper) (E:List Nat) (B:List (List Nat)):List Nat→List Nat→KFr→KH→(KFr→KH→Prop)→Prop
 | [],_,fr,h,K=>K fr h
 | i::rest,seen,fr,h,K=>
  if E.contains i then Bu P ng rd ops i fr h fun fr' h'=>uE P ng rd ops E (B.getD i []) seen fr' h'∧kD P ng rd ops E B rest (i::seen) fr' h' K
  else ∃v,wf P ng rd ops i fr h v∧kD P ng rd ops E B rest (i::seen) (fr.put (zk ops i) v) h K
section
variable {P:Program} {ng:Nat} {rd:Option Nat} {ops:Array Oper} {n:Nat} {order E:List Nat} {B:List (List Nat)}
theorem xE {F:KFr} {d t:Nat} {v:KV} (hd:d<F.n):yj (F.put (some d) v).l t=if t=d then v else yj F.l t:=by
 simp only [KFr.put,zI,Bool.cond_decide,hd,if_true,dW]
theorem qt (F:KFr) (d:Option Nat) (v:KV):(F.put d v).n=F.n:=by
 cases d with
 |none=>rfl
 |some d=>simp only [KFr.put,zI,Bool.cond_decide]; split<;>rfl
theorem XU (F:KFr) (d:Option Nat) (v:KV):(F.put d v).d=F.d:=by
 cases d with
 |none=>rfl
 |some d=>simp only [KFr.put,zI,Bool.cond_decide]; split<;>rfl
theorem wF {F F':KFr} {o:Oper} (h:∀t∈vd o,yj F.l t=yj F'.l t):∀x∈o.op.operands,zf ng F.l x=zf ng F'.l x:=by
 intro x hx
 cases x with
 |tmp t=>exact h t (List.mem_filterMap.2 ⟨.tmp t,by simpa using hx,rfl⟩)
 |_=>rfl
theorem Wz {F F':KFr} {g:Nat} (h:∀d,zk ops g=some d→yj F.l d=yj F'.l d):dL ops F.l g=dL ops F'.l g:=by
 unfold dL
 cases hd:(ops[g]?).bind (·.dst)with
 |none=>rfl
 |some d=>simp only; rw [h d (by simpa [zk] using hd)]
theorem kT {F F':KFr} {j:Nat} {o:Oper} (ho:ops[j]? =some o) (h:∀t∈zN ops j,yj F.l t=yj F'.l t):yE ops F.l o=yE ops F'.l o:=by
 unfold yE
 cases hg:o.guard with
 |none=>rfl
 | some q=>
  obtain⟨g,want⟩:=q
  simp only
  rw [Wz (F:=F) (F':=F') fun d hd=>h d (by unfold zN; rw [ho]; simp [hg,hd])]
theorem wf.congr {F F':KFr} {j:Nat} {st:KH} {v:KV} (h:∀t∈zN ops j,yj F.l t=yj F'.l t) (hs:wf P ng rd ops j F st v):wf P ng rd ops j F' st v:=by
 unfold wf at hs ⊢
 cases ho:ops[j]? with
 |none=>rw [ho]at hs; exact hs
 | some o=>
  rw [ho]at hs
  simp only at hs ⊢
  rw [←kT ho h]
  split at hs
  ·exact hs.congr (wF fun t ht=>h t (by unfold zN; rw [ho]; simp [ht]))
  ·exact hs
  ·exact hs
theorem xA.put (c:Chk ops n order E B) {seen rest:List Nat} {i:Nat} (hs:order=seen.reverse++i::rest) (hi:i∉E) {j:Nat} (hj:j∈seen) {F:KFr} (hn:F.n=n) {st:KH} {v:KV} (h:xA P ng rd ops j F st):
  xA P ng rd ops j (F.put (zk ops i) v) st:=by
 have him:i∈order:=by rw [hs]; simp
 have hjm:j∈order:=by rw [hs]; simp [hj]
 have hne:i≠j:=by
  rintro rfl
  have hnd:=c.nodup
  rw [hs]at hnd
  exact(List.nodup_append.1 hnd).2.2 i (List.mem_reverse.2 hj) i (by simp) rfl
 cases hd:zk ops i with
 |none=>exact h
 | some d=>
  have hdn:d<F.n:=by rw [hn]; exact c.dlt i (c.lt i him) d hd
  have heq:∀t∈zN ops j,yj F.l t=yj (F.put (some d) v).l t:=by
   intro t ht
   rw [xE hdn,if_neg]
   rintro rfl
   exact c.not_read hs hi hj hd ht
  unfold xA at h ⊢
  cases hdj:zk ops j with
  |none=>rw [hdj]at h; obtain⟨u,hu⟩:=h; exact⟨u,hu.congr heq⟩
  | some e=>
   rw [hdj]at h
   simp only at h ⊢
   have hne':e≠d:=by
    rintro rfl
    exact c.uniq i j (c.lt i him) (c.lt j hjm) hne e hd hdj
   rw [xE hdn,if_neg hne']
   exact h.congr heq
def gc (ops:Array Oper) (listed:Array Bool) (seen:List Nat) (F:KFr):KFr:=
 {F with l:=F.l.filter fun x=>seen.all fun j=>listed.getD j false|| !(zk ops j==some x)}
theorem KI {listed:Array Bool} {seen:List Nat} {F:KFr} {t:Nat} (h:∀j∈seen,¬Dn listed j→zk ops j≠some t):yj (gc ops listed seen F).l t=yj F.l t:=by
 simp only [gc,xU (p:=fun x=>seen.all fun j=>listed.getD j false|| !(zk ops j==some x))]
 rw [if_pos]
 rw [List.all_eq_true]
 intro j hj
 by_cases hd:Dn listed j
 ·simp only [Dn]at hd; simp [hd]
 ·have:=h j hj hd
  simp [this]
end
section
variable {P:Program} {ng:Nat} {rd:Option Nat} {ops:Array Oper} {n:Nat} {order E:List Nat} {B:List (List Nat)}
structure oA (P:Program) (ng:Nat) (rd:Option Nat) (Fn:Fence) (ops:Array Oper) (n:Nat) (order E:List Nat) (B:List (List Nat)) (w0:zM) (G0:Gh) (K:KFr→KH→Prop) (listed:Array Bool) (rest seen:List Nat) (F:KFr) (st:KH) (G:Gh) (w:World) (a:Act):Prop where
 size:listed.size=ops.size
 split:order=seen.reverse++rest
 headE:∀e r,rest=e::r→e∈E
 doneSeen:∀i,Dn listed i→i∈seen
 effDone:∀i∈seen,i∈E→Dn listed i
 closed:uT ops listed
 inv:∀j∈seen,¬Dn listed j→xA P ng rd ops j F st
 ad:kD P ng rd ops E B rest seen F st K
 rel:KRel w0 G st w
 defers:KDs G F.d a.defers
 tmps:a.tmps.size=F.n
 slot:∀t,(∀j∈seen,¬Dn listed j→zk ops j≠some t)→KR G (yj F.l t) (a.tmps.getD t undef)
 n:F.n=n
 ext:G0.le G
 gl:Glob P G
 rd:RdR G rd Fn
theorem oA.mask {Fn:Fence} {w0:zM} {G0:Gh} {K:KFr→KH→Prop} {listed:Array Bool} {rest seen:List Nat} {F:KFr} {st:KH} {G:Gh} {w:World} {a:Act}
  (h:oA P ng rd Fn ops n order E B w0 G0 K listed rest seen F st G w a):FrR G (gc ops listed seen F) a:=by
 refine⟨⟨h.tmps,fun t=> ?_⟩,h.defers⟩
 by_cases ht:∀j∈seen,¬Dn listed j→zk ops j≠some t
 ·rw [KI ht]; exact h.slot t ht
 ·have:yj (gc ops listed seen F).l t= .junk:=by
   simp only [gc,xU (p:=fun x=>seen.all fun j=>listed.getD j false|| !(zk ops j==some x))]
   rw [if_neg]
   intro hall
   apply ht
   intro j hj hd he
   rw [List.all_eq_true]at hall
   have:=hall j hj
   simp only [Bool.or_eq_true,Bool.not_eq_true',beq_eq_false_iff_ne]at this
   rcases this with h1|h1
   ·exact hd h1
   ·exact h1 he
  rw [this]; exact .junk _
end
section
variable {P:Program} {E:KE} {rd:Option Nat} {ops:Array Oper} {n:Nat} {order Es L:List Nat} {B:List (List Nat)}
structure uU (ops:Array Oper) (n:Nat) (order Es L:List Nat) (B:List (List Nat)):Prop where
 nodup:order.Nodup
 len:order.length=ops.size
 all:∀i,i<ops.size→i∈order
 lt:∀i∈order,i<ops.size
 topo:∀p (h:p<order.length),∀k∈dp ops order[p],k∈order.take p
 clos:∀j,j<ops.size→∀i∈B.getD j [],i∈dp ops j∨∃k∈dp ops j,i∈B.getD k []
 dlt:∀i,i<ops.size→∀d,zk ops i=some d→d<n
 uniq:∀i j,i<ops.size→j<ops.size→i≠j→∀d,zk ops i=some d→zk ops j≠some d
 reads:∀i,i<ops.size→∀t∈zN ops i,∀k,k<ops.size→zk ops k=some t→k∈B.getD i []∨(k∈Es∧(k=i∨i∈B.getD k []))
 waits:∀p (h:p<order.length),order[p]∈Es∨order[p]∈L→∀j∈order.drop (p+1),j∉L→order[p]∈B.getD j []
 late:∀i∈L,i<ops.size→i∉Es∧(∀o,ops[i]? =some o→o.guard=none)∧∀t∈zN ops i,∀k∈L,zk ops k≠some t
theorem uU.before (c:uU ops n order Es L B):∀p (h:p<order.length),∀i∈B.getD order[p] [],i∈order.take p:=by
 intro p
 induction p using Nat.strongRecOn with
 | _ p ih=>
  intro h i hi
  rcases c.clos _ (c.lt _ (List.getElem_mem h)) i hi with hd|⟨k,hk,hki⟩
  ·exact c.topo p h i hd
  ·obtain⟨q,hq,hql,rfl⟩:=yI (c.topo p h k hk)
   have:=ih q hq hql i hki
   exact(List.take_sublist_take_left (by omega)).mem this
theorem uU.closed (c:uU ops n order Es L B) {listed:Array Bool} (hc:uT ops listed):∀p (h:p<order.length),Dn listed order[p]→∀i∈B.getD order[p] [],Dn listed i:=by
 intro p
 induction p using Nat.strongRecOn with
 | _ p ih=>
  intro h hd i hi
  rcases c.clos _ (c.lt _ (List.getElem_mem h)) i hi with hdp|⟨k,hk,hki⟩
  ·exact hc _ _ hd hdp
  ·obtain⟨q,hq,hql,rfl⟩:=yI (c.topo p h k hk)
   exact ih q hq hql (hc _ _ hd hk) i hki
theorem uU.ready (c:uU ops n order Es L B) {listed:Array Bool} (hc:uT ops listed) {j:Nat} (hj:j<ops.size) (hr:∀k∈dp ops j,Dn listed k):∀i∈B.getD j [],Dn listed i:=by
 intro i hi
 rcases c.clos j hj i hi with hd|⟨k,hk,hki⟩
 ·exact hr i hd
 ·have hkm:k<ops.size:=by
   obtain⟨p,hp,he⟩:=List.getElem_of_mem (c.all j hj)
   have:=c.topo p hp k (by rw [he]; exact hk)
   exact c.lt k (List.mem_of_mem_take this)
  obtain⟨p,hp,he⟩:=List.getElem_of_mem (c.all k hkm)
  exact c.closed hc p hp (by rw [he]; exact hr k hk) i (by rw [he]; exact hki)
theorem uU.dn (c:uU ops n order Es L B) {listed:Array Bool} (hc:uT ops listed) {j:Nat} (hj:j<ops.size) (hd:Dn listed j):∀i∈B.getD j [],Dn listed i:=c.ready hc hj fun k hk=>hc j k hd hk
theorem uU.seen (c:uU ops n order Es L B) {seen rest:List Nat} (hs:order=seen.reverse++rest) {j:Nat} (hj:j∈seen):∀i∈B.getD j [],i∈seen:=by
 intro i hi
 have hjm:j∈order:=by rw [hs]; simp [hj]
 obtain⟨p,hp,he⟩:=List.getElem_of_mem hjm
 have hb:=c.before p hp i (by rw [he]; exact hi)
 have hpl:p<seen.length:=by
  rcases Nat.lt_or_ge p seen.length with h1|h1
  ·exact h1
  ·exfalso
   have hnd:=c.nodup
   rw [hs]at hnd
   have hdis:=(List.nodup_append.1 hnd).2.2
   have:order[p]∈rest:=by
    subst hs
    rw [List.getElem_append_right (by simpa using h1)]
    exact List.getElem_mem _
   rw [he]at this
   exact hdis j (List.mem_reverse.2 hj) j this rfl
 obtain⟨q,hq,hql,hqe⟩:=yI hb
 have:order[q]∈seen:=by
  subst hs
  rw [List.getElem_append_left (by simp; omega)]
  exact List.mem_reverse.1 (List.getElem_mem _)
 rw [hqe]at this; exact this
theorem uU.not_seen (c:uU ops n order Es L B) {seen rest:List Nat} {i:Nat} (hs:order=seen.reverse++rest) (hi:i∈rest):i∉seen:=by
 intro h
 have hnd:=c.nodup
 rw [hs]at hnd
 exact(List.nodup_append.1 hnd).2.2 i (List.mem_reverse.2 h) i hi rfl
theorem uU.not_read (c:uU ops n order Es L B) {seen rest:List Nat} {i:Nat} (hs:order=seen.reverse++i::rest) (hi:i∉Es) {j d:Nat} (hj:j∈seen) (hd:zk ops i=some d):d∉zN ops j:=by
 intro hr
 have him:i∈order:=by rw [hs]; simp
 have hjm:j∈order:=by rw [hs]; simp [hj]
 rcases c.reads j (c.lt j hjm) d hr i (c.lt i him) hd with h|h
 ·exact c.not_seen hs (by simp) (c.seen hs hj i h)
 ·exact hi h.1
def kD2 (P:Program) (E:KE) (rd:Option Nat) (ops:Array Oper) (Es L:List Nat) (B:List (List Nat)):List Nat→List Nat→KFr→KH→(KFr→KH→Prop)→Prop
 | [],_,fr,h,K=>K fr h
 | i::rest,seen,fr,h,K=>
  if Es.contains i then Bu P E.ng rd ops i fr h fun fr' h'=>uE P E.ng rd ops (Es++L) (B.getD i []) seen fr' h'∧kD2 P E rd ops Es L B rest (i::seen) fr' h' K
  else if L.contains i then ∃o tm cs,ops[i]? =some o∧kal E fr.l o.op=some (tm,cs)∧yw h=true∧uE P E.ng rd ops (Es++L) (B.getD i []) seen (fr.put o.dst (tm.at h.next)) (h.push (.cells false cs))∧kD2 P E rd ops Es L B rest (i::seen) (fr.put o.dst (tm.at h.next)) (h.push (.cells false cs)) K
  else ∃v,wf P E.ng rd ops i fr h v∧kD2 P E rd ops Es L B rest (i::seen) (fr.put (zk ops i) v) h K
theorem qj {ng:Nat} {Bi:List Nat} {F:KFr} {st:KH}:∀ {l:List Nat},uE P ng rd ops (Es++L) Bi l F st→∀j∈l,j∉Es→j∉L→j∉Bi→xA P ng rd ops j F st
 | [],_,j,hj,_,_,_=>by cases hj
 | x::l,hs,j,hj,h1,h2,h3=>by
  simp only [uE]at hs
  rcases List.mem_cons.1 hj with rfl|hj
  ·have:=hs.1
   rw [if_neg (by simp only [Bool.or_eq_true,List.contains_iff_mem,List.mem_append,not_or]; exact⟨⟨h1,h2⟩,h3⟩)]at this
   exact this
  ·exact qj hs.2 j hj h1 h2 h3
def Km (E:KE) (ops:Array Oper) (w0:zM) (F:KFr) (st:KH) (G:Gh) (w:World) (a:Act) (b j:Nat):Prop:=
 ∃ o tm cs C el room,ops[j]? =some o∧kal E F.l o.op=some (tm,cs)∧w.heap[b]? =some (.cells C el (0,0))∧w0.w.heap.size≤b∧Yt st G b∧cs.length≤room∧room≤C.size ∧
  (∀(i:Nat) (v:KV) (x:Value),cs[i]? =some v→C[i]? =some x→KR G v x)∧∀d,o.dst=some d→∀(G':Gh) (id:Nat),G'.at_ id=some (b,0)→G'.room id=room→KR G' (tm.at id) (a.tmps.getD d undef)
theorem Km.turn {w0:zM} {F F':KFr} {st st':KH} {G G':Gh} {w w':World} {a a':Act} {b j:Nat} (h:Km E ops w0 F st G w a b j) (hF:∀t∈zN ops j,yj F.l t=yj F'.l t) (hG:G.le G') (hw:w'.heap[b]? =w.heap[b]?) (hf:Yt st' G' b)
  (ha:∀d,zk ops j=some d→a'.tmps.getD d undef=a.tmps.getD d undef):Km E ops w0 F' st' G' w' a' b j:=by
 obtain⟨o,tm,cs,C,el,room,h1,h2,h3,h4,h5,h6,h7,h8,h9⟩:=h
 refine⟨o,tm,cs,C,el,room,h1, ?_,hw.trans h3,h4,hf,h6,h7,fun i v x q1 q2=>(h8 i v x q1 q2).le hG,fun d hd=> ?_⟩
 ·rw [←h2]
  exact(dG o.op (wF fun t ht=>hF t (by unfold zN; rw [h1]; simp [ht]))).symm
 ·rw [ha d (by simp [zk,h1,hd])]; exact h9 d hd
structure pw (P:Program) (E:KE) (rd:Option Nat) (Fn:Fence) (ops:Array Oper) (n:Nat) (order Es L:List Nat) (B:List (List Nat)) (w0:zM) (G0:Gh) (K:KFr→KH→Prop) (ab:Nat→Nat) (listed:Array Bool) (rest seen:List Nat) (F:KFr) (st:KH) (G:Gh) (w:World) (a:Act):Prop where
 size:listed.size=ops.size
 split:order=seen.reverse++rest
 doneSeen:∀i,Dn listed i→i∈seen∨i∈L
 effDone:∀i∈seen,i∈Es∨i∈L→Dn listed i
 closed:uT ops listed
 inv:∀j∈seen,¬Dn listed j→xA P E.ng rd ops j F st
 ad:kD2 P E rd ops Es L B rest seen F st K
 rel:KRel w0 G st w
 defers:KDs G F.d a.defers
 tmps:a.tmps.size=F.n
 ahead:∀j∈L,Dn listed j→j∉seen→Km E ops w0 F st G w a (ab j) j
 inj:∀i∈L,∀j∈L,Dn listed i→Dn listed j→i∉seen→j∉seen→ab i=ab j→i=j
 slot:∀t,(∀j∈seen,¬Dn listed j→zk ops j≠some t)→(∀j∈L,Dn listed j→j∉seen→zk ops j≠some t)→KR G (yj F.l t) (a.tmps.getD t undef)
 n:F.n=n
 ext:G0.le G
 gl:Glob P G
 rd:RdR G rd Fn
theorem pw.norm {Fn:Fence} {w0:zM} {G0:Gh} {K:KFr→KH→Prop} {ab:Nat→Nat} {listed:Array Bool} {w:World} {a:Act} (c:uU ops n order Es L B):∀(rest seen:List Nat) (F:KFr) (st:KH) (G:Gh),pw P E rd Fn ops n order Es L B w0 G0 K ab listed rest seen F st G w a →
  ∃rest' seen' F' st' G',pw P E rd Fn ops n order Es L B w0 G0 K ab listed rest' seen' F' st' G' w a∧∀e r,rest'=e::r→e∈Es∨(e∈L∧¬Dn listed e)
 | [],seen,F,st,G,h=>⟨[],seen,F,st,G,h,by simp⟩
 | i :: rest,seen,F,st,G,h=>by
  have hs:=h.split
  have him:i∈order:=by rw [hs]; simp
  have hil:=c.lt i him
  have hns:i∉seen:=c.not_seen hs (by simp)
  by_cases hE:i∈Es
  ·exact⟨i::rest,seen,F,st,G,h,fun e r he=>by injection he with he _; subst he; exact .inl hE⟩
  by_cases hL:i∈L
  ·by_cases hd:Dn listed i
   ·
    have had:=h.ad
    simp only [kD2]at had
    rw [if_neg (by simpa using hE),if_pos (by simpa using hL)]at had
    obtain⟨o,tm,cs,ho,hk,hroom,hst,had⟩:=had
    obtain⟨o',tm',cs',C,el,room,ho',hk',hb,hsz,hf,hr1,hr2,hr3,hr4⟩:=h.ahead i hL hd hns
    rw [ho]at ho'; injection ho' with ho'; subst ho'
    rw [hk]at hk'; injection hk' with hk'; injection hk' with hk1 hk2; subst hk1 hk2
    have hdst:zk ops i=o.dst:=by simp [zk,ho]
    have hn':st.next+1<65000:=by simpa [yw,zI] using hroom
    have hle:=Gh.new_le G h.rel.fresh (ab i,0) room
    have hrel:=h.rel.adopt hn' (room:=room) (o:= .cells false cs) hb (.inl hsz) (.inr hsz) hf (.cells hr1 (by omega) (fun _=> .zero _) (fun j v x q1 q2=>(hr3 j v x q1 (by simpa using q2)).le hle))
    refine pw.norm c rest (i::seen) (F.put o.dst (tm.at st.next)) (st.push (.cells false cs)) _ {size:=h.size,split:=by rw [hs]; simp,doneSeen:=fun k hk=>(h.doneSeen k hk).imp (List.mem_cons_of_mem _) id,effDone:= ?_,closed:=h.closed,inv:= ?_,ad:=had,rel:=hrel,defers:=by rw [XU]; exact h.defers.le hle,tmps:=by rw [qt]; exact h.tmps,ahead:= ?_,inj:= ?_,slot:= ?_,n:=by rw [qt]; exact h.n,ext:=h.ext.trans hle,gl:=h.gl.le hle,rd:=h.rd.le hle}
    ·intro j hj he
     rcases List.mem_cons.1 hj with rfl|hj
     ·exact hd
     ·exact h.effDone j hj he
    ·intro j hj hnd
     rcases List.mem_cons.1 hj with rfl|hj
     ·exact absurd hd hnd
     ·exact qj hst j hj (fun he=>hnd (h.effDone j hj (.inl he))) (fun he=>hnd (h.effDone j hj (.inr he))) (fun hb=>hnd (c.dn h.closed hil hd j hb))
    ·intro j hj hjd hjn
     simp only [List.mem_cons,not_or]at hjn
     refine(h.ahead j hj hjd hjn.2).turn ?_ hle rfl ?_ (fun _ _=>rfl)
     ·intro t ht
      cases hd':o.dst with
      |none=>rfl
      | some d=>
       have hdn:d<F.n:=by rw [h.n]; exact c.dlt i hil d (by rw [hdst,hd'])
       rw [xE hdn,if_neg]
       rintro rfl
       have hjl:j<ops.size:=by
        obtain⟨o',_,_,_,_,_,q,_⟩:=h.ahead j hj hjd hjn.2
        exact(Array.getElem?_eq_some_iff.1 q).1
       exact(c.late j hj hjl).2.2 _ ht i hL (by rw [hdst,hd'])
     ·obtain ⟨_,_,_,_,_,_,_,_,_,_,hfj,_⟩:=h.ahead j hj hjd hjn.2
      intro id x k e1 e2
      rw [wj st h.rel.top]at e1
      by_cases hid:id=st.next
      ·subst hid
       rw [Gh.new_at]at e2
       injection e2 with e2; injection e2 with e2 _
       exact hjn.1 (h.inj i hL j hj hd hjd hns hjn.2 e2).symm
      ·rw [if_neg hid]at e1
       have e3:G.at_ id=some (ab j,k):=by
        have:(G.new st.next (ab i,0) room).at_ id=G.at_ id:=if_neg hid
        rw [←this]; exact e2
       exact hfj id x k e1 e3
    ·intro x hx y hy hxd hyd hxn hyn
     simp only [List.mem_cons,not_or]at hxn hyn
     exact h.inj x hx y hy hxd hyd hxn.2 hyn.2
    ·intro t ht1 ht2
     have old:o.dst≠some t→KR G (yj F.l t) (a.tmps.getD t undef):=fun hne=>h.slot t (fun j hj=>ht1 j (List.mem_cons_of_mem _ hj)) (fun j hj hjd hjn=>by
      by_cases hji:j=i
      ·subst hji; rw [hdst]; exact hne
      ·exact ht2 j hj hjd (by simp [hji,hjn]))
     cases hd':o.dst with
     |none=>exact(old (by rw [hd']; simp)).le hle
     | some d=>
      have hdn:d<F.n:=by rw [h.n]; exact c.dlt i hil d (by rw [hdst,hd'])
      rw [xE hdn]
      by_cases htd:t=d
      ·subst htd
       rw [if_pos rfl]
       exact hr4 t hd' _ _ (Gh.new_at _ _ _ _) (Gh.new_room _ _ _ _)
      ·rw [if_neg htd]
       exact(old (by rw [hd']; intro q; injection q with q; exact htd q.symm)).le hle
   ·exact⟨i::rest,seen,F,st,G,h,fun e r he=>by injection he with he _; subst he; exact .inr ⟨hL,hd⟩⟩
  ·
   have hnd:¬Dn listed i:=fun hd=>(h.doneSeen i hd).elim hns hL
   have had:=h.ad
   simp only [kD2]at had
   rw [if_neg (by simpa using hE),if_neg (by simpa using hL)]at had
   obtain⟨v,hv,had⟩:=had
   have hstill:xA P E.ng rd ops i (F.put (zk ops i) v) st:=by
    unfold xA
    cases hd:zk ops i with
    |none=>exact⟨v,by rw [hd]at *; exact hv⟩
    | some d=>
     have hdn:d<F.n:=by rw [h.n]; exact c.dlt i hil d hd
     simp only
     rw [xE hdn,if_pos rfl]
     refine hv.congr ?_
     intro t ht
     rw [xE hdn,if_neg]
     rintro rfl
     rcases c.reads i hil t ht i hil hd with h'|h'
     ·obtain⟨p,hp,he⟩:=List.getElem_of_mem him
      have hb:=c.before p hp i (by rw [he]; exact h')
      obtain⟨q,hq,hql,hqe⟩:=yI hb
      have:=(List.getElem_inj (h₀:=hql) (h₁:=hp) c.nodup).1 (hqe.trans he.symm)
      omega
     ·exact hE h'.1
   have keepF:∀j,(∀d,zk ops i=some d→d∉zN ops j)→∀t∈zN ops j,yj F.l t=yj (F.put (zk ops i) v).l t:=by
    intro j hj t ht
    cases hd:zk ops i with
    |none=>rfl
    | some d=>
     have hdn:d<F.n:=by rw [h.n]; exact c.dlt i hil d hd
     rw [xE hdn,if_neg]
     rintro rfl
     exact hj t hd ht
   refine pw.norm c rest (i::seen) (F.put (zk ops i) v) st G {size:=h.size,split:=by rw [hs]; simp,doneSeen:=fun k hk=>(h.doneSeen k hk).imp (List.mem_cons_of_mem _) id,effDone:= ?_,closed:=h.closed,inv:= ?_,ad:=had,rel:=h.rel,defers:=by rw [XU]; exact h.defers,tmps:=by rw [qt]; exact h.tmps,ahead:= ?_,inj:= ?_,slot:= ?_,n:=by rw [qt]; exact h.n,ext:=h.ext,gl:=h.gl,rd:=h.rd}
   ·intro j hj he
    rcases List.mem_cons.1 hj with rfl|hj
    ·exact(he.elim hE hL).elim
    ·exact h.effDone j hj he
   ·intro j hj hjd
    rcases List.mem_cons.1 hj with rfl|hj
    ·exact hstill
    ·have hh:=h.inv j hj hjd
     have heq:=keepF j fun d hd=>c.not_read hs hE hj hd
     unfold xA at hh ⊢
     cases hdj:zk ops j with
     |none=>rw [hdj]at hh; obtain⟨u,hu⟩:=hh; exact⟨u,hu.congr heq⟩
     | some e=>
      rw [hdj]at hh
      simp only at hh ⊢
      have hjm:j∈order:=by rw [hs]; simp [hj]
      have hsame:yj (F.put (zk ops i) v).l e=yj F.l e:=by
       cases hd:zk ops i with
       |none=>rfl
       | some d=>
        have hdn:d<F.n:=by rw [h.n]; exact c.dlt i hil d hd
        rw [xE hdn,if_neg]
        rintro rfl
        exact c.uniq i j hil (c.lt j hjm) (fun q=>hns (q▸hj)) e hd hdj
      rw [hsame]
      exact hh.congr heq
   ·intro j hj hjd hjn
    simp only [List.mem_cons,not_or]at hjn
    have hA:=h.ahead j hj hjd hjn.2
    obtain⟨_,_,_,_,_,_,q,_,_,_,hfj,_⟩:=id hA
    have hjl:j<ops.size:=(Array.getElem?_eq_some_iff.1 q).1
    refine hA.turn (keepF j fun d hd hr=> ?_) (.refl _) rfl hfj (fun _ _=>rfl)
    rcases c.reads j hjl d hr i hil hd with h1|h1
    ·exact hnd (c.dn h.closed hjl hjd i h1)
    ·exact hE h1.1
   ·intro x hx y hy hxd hyd hxn hyn
    simp only [List.mem_cons,not_or]at hxn hyn
    exact h.inj x hx y hy hxd hyd hxn.2 hyn.2
   ·intro t ht1 ht2
    have hdi:=ht1 i (by simp) hnd
    have hsame:yj (F.put (zk ops i) v).l t=yj F.l t:=by
     cases hd:zk ops i with
     |none=>rfl
     | some d=>
      have hdn:d<F.n:=by rw [h.n]; exact c.dlt i hil d hd
      rw [xE hdn,if_neg]
      rintro rfl
      exact hdi hd
    rw [hsame]
    exact h.slot t (fun j hj=>ht1 j (List.mem_cons_of_mem _ hj)) (fun j hj hjd hjn=>ht2 j hj hjd (by
     simp only [List.mem_cons,not_or]
     exact⟨fun q=>hL (q▸hj),hjn⟩))
end
end Go.K
end
