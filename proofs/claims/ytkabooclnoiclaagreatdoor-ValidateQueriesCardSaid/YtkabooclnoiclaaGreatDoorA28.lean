/- Abstract values. No condition. -/
import Derived.Test.YtkabooclnoiclaaGreatDoorA27
set_option linter.all false
section
namespace Go.Abs
open Go.RowKit (Below)
section
variable {gl:Nat->List V} {w0:xi} {G:Gh} {st:St} {w:World}
def Rel.freeze (h:Rel gl w0 G st w) {id b n sz cap:Nat} {cs:List V} (r:st.vars[id]? =some [.buf cs]) (M:G.var id=some b) (z:0<n) (hsz:0<sz) (hlen:n*sz<=cs.length) (hcap:n<=cap) (hroom:cap*sz<=G.room id) (p:Nat):
  ∃G',Rel gl w0 G' ((st.put id []).pushFam p) w∧Ext st G G'∧VR G' (.sl sz (jw sz n (cs.take (n*sz))) (.fam st.fams.length p)) (.slice (some ⟨b,0,none⟩) n cap):=by
 have hpos:0<n*sz:=Nat.mul_pos z hsz;have N:=V.gone_buf (cs:=cs) O0;obtain⟨C,el,h2,h3,Y,h4,Q,h5⟩:=h.bufOf r O0 M;obtain⟨_,_,_,_,_,_,himm⟩:=h.vars id _ r N
 have U:∀i,G.imm b i=none:=by
  obtain⟨a,o,F,k2,k3,k4,k5⟩:=h.vars id _ r N;rw [M]at F; cases F; exact k5
 let f:Nat->Option V:=fun i=>(cs.take (n*sz))[i]?
 have m:∀a i v,G.imm a i=some v->(G.setImm b f).imm a i=some v:=by
  intro a i v j;simp only [Gh.setImm];split
  ·rename_i e; subst e; rw [U i]at j; cases j
  ·exact j
 have hx:Ext st G (G.setImm b f):=⟨m,fun _ _=>rfl,fun _ _ _ _ _=>rfl,fun _ _=>rfl⟩
 have k:=h.kill id;have hxk:Ext (st.put id []) G (G.setImm b f):=⟨m,fun _ _=>rfl,fun _ _ _ _ _=>rfl,fun _ _=>rfl⟩
 have y:∀(x:Nat) (c:List V),(st.put id []).vars[x]? =some c->V.gone c=false->G.var x≠some b:=by
  intro x c s z S;rcases St.put_get s with⟨rfl,rfl⟩|⟨y,s⟩
  ·exact absurd z (by simp [V.gone])
  ·exact y (h.disj x id b _ _ s z r N S M)
 have H:∀(t q e l:Nat),st.fams[t]? =some q->G.tip t q≠some (b,e,l):=by
  intro t q e l O L;obtain⟨_,_,_,_,_,_,h7⟩:=h.fam t q b e l O L;exact h7 id _ r N M
 have Z:Rel gl w0 (G.setImm b f) (st.put id []) w:={
  below:=k.below
  vars:=by
   intro x c s z;obtain⟨a,o,F,k2,k3,k4,k5⟩:=k.vars x c s z;have:a≠b:=fun e=>y x c s z (e▸F);exact⟨a,o,F,k2,k3,k4.ext hxk (k.sc x c s),fun i=>by simp [Gh.setImm,this,k5 i]⟩
  varlt:=k.varlt
  sc:=k.sc
  disj:=k.disj
  imm :=by
   intro a i v j
   by_cases e:a=b
   ·subst e;simp only [Gh.setImm,if_true]at j
    have A:cs[i]? =some v:=by
     simp only [f,List.getElem?_take]at j;split at j
     ·exact j
     ·cases j
    have I:=Y v (iQ A);have hj:i<C.size:=Nat.lt_of_lt_of_le (wF A) h4;exact⟨I,C[i],by rw [xR h3]; simp [hj],(Q i v _ A (by simp [hj])).pure_ext m (V.pure_of_pcell I)⟩
   ·simp only [Gh.setImm,e,if_false]at j;obtain⟨I,c,s,hr⟩:=k.imm a i v j;exact⟨I,c,s,hr.pure_ext m (V.pure_of_pcell I)⟩
  fam:=by
   intro t q a e l O L;obtain⟨m2,C',el',m3,m4,m6,m7⟩:=k.fam t q a e l O L;have:a≠b:=fun e'=>H t q e l O (e'▸L);exact⟨m2,C',el',m3,m4,fun i hi=>by simp [Gh.setImm,this,m6 i hi],m7⟩
  famdisj:=k.famdisj
  glob:=fun g i v j=>m g i v (k.glob g i v j)
  gfix:=k.gfix
  old:=by
   intro a i hm;have:a≠b:=fun e=>hm (e▸h2);simp only [Gh.setImm,this,if_false]
   exact k.old a i hm}
 obtain ⟨hr2,hx2⟩:=Z.newFam (p:=p) (b:=b) (e:=n*sz) (lim:=cap*sz) h2 h3 (Nat.le_trans hroom h5) (by
  intro i hi;simp only [Gh.setImm,if_true,f,List.getElem?_take]
  rw [iH O0]) y H
 have X:(st.put id []).fams.length=st.fams.length:=rfl;refine⟨_,hr2,hx.trans (St.le_put st id []) hx2, ?_⟩;have W:(cs.take (n*sz)).length=n*sz:=O3;obtain⟨c1,c2,c3⟩:=ZM sz n (cs.take (n*sz)) W
 have:=VR.sl (G:=(G.setImm b f).setTip (st.put id []).fams.length p (b,n*sz,cap*sz)) (sz:=sz) (es:=jw sz n (cs.take (n*sz))) (tok:= .fam st.fams.length p) (b:=b) (o:=0) (cap:=cap)
  (bM c3 (by
   intro i v j;rw [c2]at j;show(if b=b then f (0+i)else G.imm b (0+i))=some v
   rw [iI rfl,Nat.zero_add]; exact j)) ⟨cap*sz,by simp [Gh.setTip,c1,X],O0⟩ O0
 rw [c1]at this;exact this
end
section
variable {s0 st:St} {fr:AFr}
def Wk.freeze (t id n sz p:Nat) {cs:List V} (h:yG fr.l t= .own id n sz) (o:st.vars[id]? =some [.buf cs]) (s:0<sz) (g:n*sz<=cs.length) (A:t<fr.n):
  Wk s0 fr st (fr.put (some t) (.sl sz (jw sz n (cs.take (n*sz))) .none)) (st.put id []):=by
 intro gl w0 G0 G w a l v m b;have r:=(b.slot t).2;rw [h]at r;generalize z:a.tmps.getD t undef=c at r;have k:st.le (st.put id []):=St.le_put st id []
 cases r with
 | own k0 O Q S=>
  obtain⟨G',H,I,L⟩:=m.freeze o O k0 s g Q S n
  have M:Rel gl w0 G' (st.put id []) w:=by
   refine H.forget (by simp [St.pushFam,St.put]) ?_ ?_
   ·intro i q f;have:i<st.fams.length:=wF f;simp only [St.pushFam,St.put]at f ⊢;rw [iU this]; exact f
   ·intro x c y;exact⟨(m.kill id).sc x c y,fun N=>⟨c,y,N,fun _ _ x=>x⟩⟩
  have C:Ext st G G':=I;have F:=b.ext C k;refine⟨l.trans k,G',v.trans l C,M,b.defers,by simp only [AFr.put]; split<;>exact b.size, ?_⟩;intro i;have j:=F.slot i;simp only [AFr.put,A,if_true,bj];split
  ·rename_i e; subst e;refine⟨by simp [V.sc], ?_⟩;rw [z];have:=L.pur;simpa [V.pur] using this
  ·exact j
 | ownnil=>
  refine⟨l.trans k,G,v,m.kill id,b.defers,by simp only [AFr.put]; split<;>exact b.size, ?_⟩;intro i;have j:=b.slot i;simp only [AFr.put,A,if_true,bj];split
  ·rename_i e; subst e;refine⟨by simp [V.sc], ?_⟩;rw [z];simp only [Nat.zero_mul,List.take_zero,jw];exact .slnil _ _
  ·exact⟨V.sc_mono k _ j.1,j.2⟩
end
section
variable {P:Program} {T:TypeId->TI} {gl:Nat->List V} {ops:Array Oper} {K:AFr->St->Prop} {E:List Nat} {B:List (List Nat)}
def kIf {Q:Prop} (b:Bool) (e:b=true->Q) (a:b=false->Q):Q:=by
 cases b with
 |true=>exact e rfl
 |false=>exact a rfl
def zaS (o:T=ti P) {i:Nat} {x:Cfg} (k m f id:Nat) {cell:Option (List V)} {q:St->Option (V×St)} {v:V} {F:St->St}
  (p:∀st:St,st.vars.length=m->st.fams.length=f->st.vars[id]? =cell->q st=some (v,F st)) (l:Nat.ble i k=true)
  (b:((uc T gl ops i k x).2.vars.length,(uc T gl ops i k x).2.fams.length,(uc T gl ops i k x).2.vars[id]?,gP T gl ops i k x)=(m,f,cell,q (uc T gl ops i k x).2))
  (h:yy P gl ops (k+1) (uL (uc T gl ops i k x) (yw ops k) v F) K):yy P gl ops i x K:=by
 injection b with e b; injection b with g b; injection b with j a;have n:=p _ e g j;rw [bc]at e g j a n;rw [VW]at a;rw [bc,ZP]at h;unfold yy at h ⊢;exact D0 o k n l a h
def zbk (l:T=ti P) {fx:List (Nat×Option V×V)} (A:Yr fx) {i:Nat} {e seen:List Nat} {x:Cfg} (m f id:Nat) {cell:Option (List V)} {q:St->Option (V×St)} {v:V} {F:St->St}
  (C:∀st:St,st.vars.length=m->st.fams.length=f->st.vars[id]? =cell->q st=some (v,F st)) (z:E.contains i=true)
  (j:(x.2.vars.length,x.2.fams.length,x.2.vars[id]?,Qy T gl ops i x)=(m,f,cell,q x.2))
  (H:(stX T gl ops E B i seen (uL x (yw ops i) v F),svX ops E B fx i seen (uL x (yw ops i) v F))=(stY T gl ops E B fx i seen (uL x (yw ops i) v F),svY ops E B fx i seen (uL x (yw ops i) v F)))
  (h:aDC P gl ops E B e (i::seen) (uL x (yw ops i) v F) K):aDC P gl ops E B (i::e) seen x K:=by
 have g:=ZK l A H;obtain⟨⟨n,I⟩,st⟩:=x;rw [ZP]at h g;injection j with p j; injection j with r j; injection j with s a;have y:=C _ p r s;rw [y]at a;simp only [Qy,atI]at a
 cases k:ops.toList[i]? with
 |none=>rw [k]at a; cases a
 | some o=>
  rw [k]at a;simp only at a;unfold aDC at h ⊢;simp only [aD];rw [iI z]
  cases t:gB ops o n I with
  |none=>rw [t]at a; cases a
  | some b=>
   rw [t]at a
   cases b with
   |false=>cases a
   | true=>
    simp only at a;rw [l,jq]at a;simp only [yw,k]at h g;exact(YR l k).1 t (ZB a ⟨g,h⟩)
end
section
variable {P:Program} {gl:Nat->List V} {ops:Array Oper} {s0:St} {cs:List Code} {AQ:Exit->AFr->St->Prop}
def zbX {id:Nat} {fr:AFr} {st:St} (h:yy P gl ops 0 (fr,st) (zh P gl s0 cs AQ)):zh P gl s0 (.region id ops false::cs) AQ fr st:=by
 unfold yy at h;exact jR.of (WH.region (be (fun _ _ h=>h) _ _ _ h))
def rc {i:Nat} {x:Cfg} (fr':AFr) (st':St) (a:Cl s0 (zh P gl s0 cs AQ)) (h:yy P gl ops i x (toW s0 fr' st')) (b:zh P gl s0 cs AQ fr' st'):yy P gl ops i x (zh P gl s0 cs AQ):=by
 unfold yy at h ⊢;exact be (fun _ _ e=>a _ _ _ _ e b) _ _ _ h
end
section
variable {P:Program} {gl:Nat->List V} {s0:St} {c:Code} {cs:List Code} {AQ:Exit->AFr->St->Prop} {fr:AFr} {st:St}
def u6 (P:Program) (gl:Nat->List V) (s0:St) (c:Code) (AQ:Exit->AFr->St->Prop):Nat->AFr->St->Prop
 |0,_,_=>False
 |n+1,fr,st=>zh P gl s0 [c] (wE (u6 P gl s0 c AQ n) AQ) fr st
def Bk (n:Nat) (h:u6 P gl s0 c AQ n fr st):zh P gl s0 (.loop c::cs) AQ fr st:=by
 have key:∀(n:Nat) (fr:AFr) (st:St) (w0:xi) (G0 G:Gh) (w:World) (a:Act),u6 P gl s0 c AQ n fr st->s0.le st->Ext s0 G0 G->Rel gl w0 G st w->wP G st fr a ->
   Code.rounds P c (BQ gl s0 w0 G0 (wE (fun fr st=>zh P gl s0 cs AQ fr st) AQ)) n a w:=by
  intro n
  induction n with
  |zero=>intro fr st w0 G0 G w a h; exact h.elim
  | succ n p=>
   intro fr st w0 G0 G w a h f g i j
   have o:jR P gl s0 c (wE (u6 P gl s0 c AQ n) AQ) fr st:=by
    have:=h;simp only [u6,zh,pc]at this; exact this
   refine wp_mono (o w0 G0 G w a f g i j) ?_;intro e m x l
   cases e with
   | normal=>
    obtain⟨b,k,G',q,r,s,t,v⟩:=l;exact p b k w0 G0 G' x m q v t r s
   |_=>exact l
 intro w0 G0 G w a f g i j;exact wp_loop_rounds n (key n fr st w0 G0 G w a h f g i j)
def rW {n:Nat} (h:zh P gl s0 [c] (wE (u6 P gl s0 c AQ n) AQ) fr st):u6 P gl s0 c AQ (n+1) fr st:=h
def lD {n:Nat} (h:zh P gl s0 [c] (wE (u6 P gl s0 c AQ n) AQ) fr st):wE (u6 P gl s0 c AQ (n+1)) AQ .normal fr st:=h
def vy {n:Nat}:Cl s0 (wE (u6 P gl s0 c AQ n) AQ .normal):=by
 cases n with
 |zero=>intro fr st a b e h; exact h.elim
 |succ n=>exact zO
end
def vI (k:IntKind) (n:Int):V:= .int k n
def vS (s:List UInt8):V:= .str s
def vB (b:Bool):V:= .bool b
def U1 {α:Type} (c:α->V):Prop:=∀x,V.pcell (c x)=true
def uI (k:IntKind):U1 (vI k):=fun _=>rfl
def uS:U1 vS:=fun _=>rfl
def jo (n:Nat) (i:Int):Option Nat:=if 0<=i∧i<n then some i.toNat else none
def QQ {n id:Nat} {i:Int} {j:Nat} {e:TypeId} {sz b:Nat} (h:jo n i=some j):vN (.slice e sz b) (.own id n sz) i=some (.ptr id (j*sz)):=by
 unfold jo at h;split at h
 ·rename_i a; cases h;simp [vN,a]
 ·cases h
def xD {n id off:Nat} {i:Int} {j:Nat} {sz:Nat} (h:jo n i=some j):vN (.arr n sz) (.ptr id off) i=some (.ptr id (off+j*sz)):=by
 unfold jo at h;split at h
 ·rename_i a; cases h;simp [vN,a,V.add]
 ·cases h
def sQ {α:Type} {c:α->V} {l:List α} {off:Nat} {x:α} (h:l[off]? =some x):rd (l.map c) off 1 false=some (c x):=by
 simp [rd,h]
def xB {α:Type} {c:α->V} {l:List α} {off:Nat} {x:α} (h:l[off]? =some x):(if(l.map c).length=0 then none else rd (l.map c) off 1 false)=some (c x):=by
 have:(l.map c).length≠0:=by
  have:=zB h;simp; intro a; subst a; simp at this
 rw [iH this]; exact sQ h
def pI {α:Type} (l:List α) (off:Nat) (x:α):Option (List α):=if off<l.length then some (l.set off x)else none
def q6 {α:Type} {T:TypeId->TI} {c:α->V} (U:U1 c) {l i:List α} {off id m f:Nat} {x:α} {t:TypeId} (e:(T t).ok=true) (h:pI l off x=some i):
  ∀st:St,st.vars.length=m->st.fams.length=f->st.vars[id]? =some [.buf (l.map c)]->(match YD st (.ptr id off) (c x) 1 with|some st'=>if(T t).ok=true then some (V.junk,st')else none|none=>none)=some (.junk,st.put id [.buf (i.map c)]):=by
 intro st _ _ j;unfold pI at h;split at h
 ·rename_i b;cases h;have g:=U x
  have hcells:(c x).cells= [c x]:=by
   have:=V.isCell_of_pcell g;cases n:c x<;>rw [n]at this<;>first|rfl|(simp [V.isCell]at this)
  have a:List.take off (l.map c) ++ [c x]++List.drop (off+1) (l.map c)=(l.set off x).map c:=by
   rw [List.map_set,List.set_eq_take_append_cons_drop,iI (O7 b)];simp
  have k:V.pcells [c x]=true:=by rw [V.pcells,List.all_cons,g]; rfl
  simp only [YD,j,hcells,List.length_singleton,List.length_map,k,e,and_self,if_true];rw [iI ⟨trivial,O0,O0,trivial⟩];simp only [a]
 ·cases h
def fS {α:Type} (bytes n:Nat) (l l2:List α):Option (List α):=if l.length=n∧l2.length≠0∧(n+l2.length)*bytes<=140737488355328 then some (l++l2)else none
def zaR {α:Type} {T:TypeId->TI} {c:α->V} {l l2 o:List α} {n id m f:Nat} {e e2:TypeId} {bytes b2:Nat} {tok2:Tok} (k:kM T e 1 bytes=true) (h:fS bytes n l l2=some o):
  ∀ st:St,st.vars.length=m->st.fams.length=f->st.vars[id]? =some [.buf (l.map c)] ->
   vq T st (.slice e 1 bytes) (.slice e2 1 b2) (.own id n 1) (.sl 1 (l2.map fun x=> [c x]) tok2)=some (.own m (n+l2.length) 1,(st.put id []).push [.buf (o.map c)]):=by
 intro st z _ y;simp only [kM,iF,beq_iff_eq,iJ]at k;obtain⟨⟨⟨p,q⟩,s⟩,t⟩:=k;unfold fS at h;split at h
 ·rename_i v; cases h;obtain⟨b,g,i⟩:=v
  have j:(l2.map fun x=> [c x]).flatten=l2.map c:=by
   generalize l2=C
   induction C with
   |nil=>rfl
   |cons a r A=>simp [A]
  simp only [vq,p,q,s,W0,and_self,if_true,List.length_map,g,if_false,i,t,y,z,j,Nat.mul_one,b,List.map_append]
 ·cases h
def WQ (bytes:Nat) (li ci:Int):Option Nat:=if 0<li∧li<=ci∧bytes*ci<=140737488355328∧ci<=140737488355328 then some li.toNat else none
def eE {α:Type} {T:TypeId->TI} {c:α->V} (U:U1 c) (z:α) {li ci:Int} {k1 k2:IntKind} {n id m f:Nat} {cell:Option (List V)} {e:TypeId} {bytes:Nat} (i:((T e).zok=true∧(T e).zero.cells= [c z])) (h:WQ bytes li ci=some n):
  ∀st:St,st.vars.length=m->st.fams.length=f->st.vars[id]? =cell->VD T st (.slice e 1 bytes) (.int k1 li) (.int k2 ci)=some (.own m n 1,st.push [.buf ((List.replicate n z).map c)]):=by
 intro st p _ _;unfold WQ at h;split at h
 ·rename_i o; cases h;obtain⟨s,j,k,l⟩:=o;have q:V.pcells [c z]=true:=by rw [V.pcells,List.all_cons,U z]; rfl
  have b:¬(li=0):=O0;have a:0<=li:=O0
  have g:wC li.toNat [c z]=(List.replicate li.toNat z).map c:=by
   simp only [wC,List.map_replicate];generalize li.toNat=n
   induction n with
   |zero=>rfl
   |succ n r=>simp [List.replicate_succ,r]
  simp only [VD,i.1,i.2,a,j,k,l,q,List.length_singleton,Nat.lt_one_iff,and_self,if_true,b,if_false,p,g]
 ·cases h
def Qo (bytes:Nat) (ci:Int):Option Unit:=if 0<=ci∧bytes*ci<=140737488355328∧ci<=140737488355328 then some ()else none
def nH {α:Type} {T:TypeId->TI} {c:α->V} (U:U1 c) (z:α) {ci:Int} {k1 k2:IntKind} {id m f:Nat} {cell:Option (List V)} {e:TypeId} {bytes:Nat} {u:Unit} (a:((T e).zok=true∧(T e).zero.cells= [c z])) (h:Qo bytes ci=some u):
  ∀st:St,st.vars.length=m->st.fams.length=f->st.vars[id]? =cell->VD T st (.slice e 1 bytes) (.int k1 0) (.int k2 ci)=some (.sl 1 [] (.fam f 0),st.pushFam 0):=by
 intro st _ k _;unfold Qo at h;split at h
 ·rename_i j;obtain⟨b,g,i⟩:=j;have l:V.pcells [c z]=true:=by rw [V.pcells,List.all_cons,U z]; rfl
  simp only [VD,a.1,a.2,b,g,i,l,List.length_singleton,Nat.lt_one_iff,Int.le_refl,and_self,if_true,k]
 ·cases h
def Qp (l:List Int):vZ (l.map (vI .u8))=some (b2s l):=by
 induction l with
 |nil=>rfl
 |cons n r a=>simp only [List.map_cons,vI,vZ]at *; rw [a]; rfl
def rF (n:Nat) (l:List Int):Option (List UInt8):=if n<=l.length then some (b2s (l.take n))else none
def zbd {n:Nat} {l:List Int} {s:List UInt8} (h:rF n l=some s):
  (if n<=(l.map (vI .u8)).length then(match vZ ((l.map (vI .u8)).take n)with|some b=>some (V.str b)|none=>none)else none)=some (.str s):=by
 unfold rF at h;split at h
 ·rename_i a; cases h;rw [iI (O7 a),<-List.map_take,Qp]
 ·cases h
def osl (n:Nat) (hi:Int):Option Nat:=if 0<hi∧hi<=n then some hi.toNat else none
def oF {n id h:Nat} {hi:Int} {k:IntKind} {e:TypeId} {sz b:Nat} (a:osl n hi=some h):jk (.slice e sz b) (.own id n sz) none (some (.int k hi)) none=some (.own id h sz):=by
 unfold osl at a;split at a
 ·rename_i i; cases a;have f:0<=hi∧hi<=((n:Nat):Int):=⟨O0,i.2⟩
  have g:0<hi.toNat:=O0;simp [jk,uf,f,g]
 ·cases a
def XV {α:Type} (c:α->V):∀l:List α,jw 1 l.length (l.map c)=l.map fun x=> [c x]
 | []=>rfl
 |x::r=>by simp only [List.length_cons,List.map_cons,jw]; rw [<-XV c r]; simp
def Wf {α:Type} (n:Nat) (l:List α):Option (List α):=if n<=l.length then some (l.take n)else none
def Wk.frz {s0 st:St} {fr:AFr} {α:Type} {c:α->V} {l b:List α} (t id n:Nat) (a:Wf n l=some b) (h:(yG fr.l t,st.vars[id]?,Nat.blt t fr.n)=(.own id n 1,some [.buf (l.map c)],true)):
  Wk s0 fr st (fr.put (some t) (.sl 1 (b.map fun x=> [c x]) .none)) (st.put id []):=by
 unfold Wf at a;split at a
 ·rename_i j; cases a;injection h with f h; injection h with g i;have:=Wk.freeze (s0:=s0) t id n 1 0 f g O0 (O7 j) (iD i);have k:(l.take n).length=n:=O3
  have e:jw 1 n ((l.map c).take (n*1))=(l.take n).map fun x=> [c x]:=by
   rw [Nat.mul_one,<-List.map_take,<-XV c (l.take n),k]
  rw [e]at this;exact this
 ·cases a
def mpc {β:Type} (c:β->V) (e:List (List UInt8×β)):List V:=e.flatMap fun p=> [.str p.1,c p.2]
def Yy {β:Type} (k:List UInt8) (v:β):List (List UInt8×β)->List (List UInt8×β)
 | []=> [(k,v)]
 |p::r=>if k=p.1 then(k,v)::r else p::Yy k v r
def JG {β:Type} (c:β->V) (k:List UInt8) (v:β):∀e:List (List UInt8×β),px (.str k) (c v) (mpc c e)=some (mpc c (Yy k v e))
 | []=>rfl
 | p::r=>by
  have a:=JG c k v r;simp only [mpc,List.flatMap_cons,List.cons_append,List.nil_append,px,Yy]at a ⊢
  by_cases h:k=p.1
  ·rw [iI h,iI h]; simp
  ·rw [iH h,iH h,a]; simp
def D9 {β:Type} (c:β->V) (e:List (List UInt8×β)):(mpc c e).length=2*e.length:=by
 induction e with
 |nil=>rfl
 |cons p r a=>simp only [mpc,List.flatMap_cons,iO,List.length_cons,List.length_nil]at *; omega
def zbU {β:Type} {T:TypeId->TI} {c:β->V} {e:List (List UInt8×β)} {k:List UInt8} (v:β) {kt et:TypeId} {id m f:Nat} (b:(T kt).d= .str) (g:∀x,V.pure (c x)=true):
  ∀st:St,st.vars.length=m->st.fams.length=f->st.vars[id]? =some [.mp (mpc c e)]->(match Zp T st (.map kt et) (.mapv id) (.str k) (c v)with|some st'=>some (V.junk,st')|none=>none)=some (.junk,st.put id [.mp (mpc c (Yy k v e))]):=by
 intro st _ _ a;simp only [Zp,b,g v,and_self,if_true,a,JG]
def zb3 {β:Type} {c:β->V} {e:List (List UInt8×β)}:some (V.int .i64 (((mpc c e).length/2:Nat):Int))=some (.int .i64 e.length):=by
 rw [D9]; congr 3; omega
def Yo (s:List UInt8) (a:Nat):Nat×Nat:=Utf8.decode ⟨s.toArray⟩ a
def nx {s:List UInt8} {a id m f:Nat} (h:Nat.blt a s.length=true):
  ∀st:St,st.vars.length=m->st.fams.length=f->st.vars[id]? =some [.sit s a]->Wv st (.iter id)=some (.tuple [.bool true, .int .i64 a, .int .i32 ((Yo s a).1:Nat)],st.put id [.sit s (a+(Yo s a).2)]):=by
 intro st _ _ b;have:a<s.length:=iD h;simp only [Wv,b,this,if_true,Yo]
def nY {s:List UInt8} {a id m f:Nat} (h:Nat.blt a s.length=false):
  ∀st:St,st.vars.length=m->st.fams.length=f->st.vars[id]? =some [.sit s a]->Wv st (.iter id)=some (.tuple [.bool false],st):=by
 intro st _ _ e
 have:¬a<s.length:=fun b=>by
  have:=Nat.ble_eq_true_of_le b;rw [show Nat.ble (a+1) s.length=Nat.blt a s.length from rfl,h]at this; cases this
 simp only [Wv,e,this,if_false]
def lne {α:Type} (l:List α):Option Unit:=match l with
 | []=>none
 |_::_=>some ()
def fj {α:Type} {c:α->List V} {l:List α} {u:Unit} {e:TypeId} {sz b:Nat} {tok:Tok} (h:lne l=some u):YN .neq (.slice e sz b) (.sl sz (l.map c) tok) .nilsl=some (.bool true):=by
 cases l with
 |nil=>cases h
 |cons x r=>rfl
def WP {α:Type} (bytes:Nat) (l2:List α):Option (List α):=if l2.length*bytes<=140737488355328 then some l2 else none
def PP {α:Type} {T:TypeId->TI} {c:α->V} {l2 g:List α} {id m f:Nat} {cell:Option (List V)} {e e2:TypeId} {bytes b2:Nat} {tok2:Tok} (i:kM T e 1 bytes=true) (h:WP bytes l2=some g):
  ∀ st:St,st.vars.length=m->st.fams.length=f->st.vars[id]? =cell ->
   X4 T st (.slice e 1 bytes) (.slice e2 1 b2) (.sl 1 (l2.map fun x=> [c x]) tok2)=some (.own m g.length 1,st.push [.buf (g.map c)]):=by
 intro st p _ _;simp only [kM,iF,beq_iff_eq,iJ]at i;obtain⟨⟨⟨j,k⟩,l⟩,n⟩:=i;unfold WP at h;split at h
 ·rename_i o; cases h
  have b:(l2.map fun x=> [c x]).flatten=l2.map c:=by
   generalize l2=s
   induction s with
   |nil=>rfl
   |cons a r q=>simp [q]
  simp only [X4,j,k,l,n,W0,and_self,if_true,List.length_map,o,p,b]
 ·cases h
def pA {α:Type} (bytes:Nat) (l l2:List α):Option (List α):=if l2.length≠0∧(l.length+l2.length)*bytes<=140737488355328 then some (l++l2)else none
def XW {α:Type} {T:TypeId->TI} {c:α->List V} {l l2 a:List α} {e e2:TypeId} {sz bytes b2:Nat} {tok2:Tok} {id m f:Nat} {cell:Option (List V)} (g:kM T e sz bytes=true) (h:pA bytes l l2=some a):
  ∀ st:St,st.vars.length=m->st.fams.length=f->st.vars[id]? =cell ->
   vq T st (.slice e sz bytes) (.slice e2 sz b2) (.sl sz (l.map c) .exact) (.sl sz (l2.map c) tok2)=some (.sl sz (a.map c) (.fam f a.length),st.pushFam a.length):=by
 intro st _ o _;simp only [kM,iF,beq_iff_eq,iJ]at g;obtain⟨⟨⟨i,j⟩,k⟩,n⟩:=g;unfold pA at h;split at h
 ·rename_i b; cases h;simp only [vq,i,j,k,W0,and_self,if_true,List.length_map,b.1,if_false,n,b.2,o,List.map_append,iO]
 ·cases h
end Go.Abs
end
