/- Abstract values. No condition. -/
import Derived.Test.YtkabooclnoiclaaGreatDoorA01
set_option linter.all false
section
namespace Go.Abs
open Go.RowKit (Below)
structure Chg (w w':World) (b:Nat) (o:Obj):Prop where
 os:w'.os=w.os
 tape:w'.tape=w.tape
 output:w'.output=w.output
 size:w'.heap.size=w.heap.size
 at_:w'.heap[b]? =some o
 other:∀k,k≠b->w'.heap[k]? =w.heap[k]?
structure xi where
 w:World
 S:Nat->Prop
 I:Nat->Nat->Option V
def xi.mine (B:xi) (b:Nat):Prop:=B.w.heap.size<=b∨B.S b
structure ZU (B:xi) (w:World):Prop where
 os:w.os=B.w.os
 tape:w.tape=B.w.tape
 output:w.output=B.w.output
 size:B.w.heap.size<=w.heap.size
 heap:∀k,k<B.w.heap.size->¬B.S k->w.heap[k]? =B.w.heap[k]?
def ZU.refl (w:World) (S:Nat->Prop) (I:Nat->Nat->Option V):ZU ⟨w,S,I⟩ w:=⟨rfl,rfl,rfl,iP _,fun _ _ _=>rfl⟩
def ZU.step {B:xi} {w w':World} (h:ZU B w) (f:w'.os=w.os) (j:w'.tape=w.tape) (g:w'.output=w.output) (i:w.heap.size<=w'.heap.size)
  (c:∀k,k<w.heap.size->¬B.mine k->w'.heap[k]? =w.heap[k]?):ZU B w':=
 ⟨f.trans h.os,j.trans h.tape,g.trans h.output,Nat.le_trans h.size i,fun k a b=>
  (c k (Nat.lt_of_lt_of_le a h.size) (fun e=>e.elim (fun x=>absurd x (Nat.not_le_of_lt a)) b)).trans (h.heap k a b)⟩
def ZU.alloc {B:xi} {w:World} (h:ZU B w) (o:Obj):ZU B (w.alloc o):=
 h.step rfl rfl rfl (by show _<=(w.heap.push o).size; simp) (fun k a _=>Below.heap_alloc _ _ _ a)
def n6 (a:Array MapEntry):List Value:=a.toList.flatMap fun e=> [e.key,e.val]
inductive VO (G:Gh) (room:Nat):List V->Obj->Prop
 | cells {cells:List V} {C:Array Value} {el:TypeId}:cells.length<=C.size->(∀(i:Nat) (v:V) (c:Value),cells[i]? =some v->C[i]? =some c->VR G v c)->room<=C.size ->
   VO G room cells (.cells C el (0,0))
 |mp {es:List V} {ent:Array MapEntry} {clk:Nat}:(∀v∈es,V.pure v=true)->VRs G es (n6 ent).toArray->VO G room [.mp es] (.map ent clk)
 |sit (s:ByteArray) (pos:Nat):VO G room [.sit s.data.toList pos] (.stringIter s pos)
 | buf {cs:List V} {C:Array Value} {el:TypeId}:(∀v∈cs,V.pcell v=true)->cs.length<=C.size->(∀(i:Nat) (v:V) (c:Value),cs[i]? =some v->C[i]? =some c->VR G v c)->room<=C.size ->
   VO G room [.buf cs] (.cells C el (0,0))
def V.plain:List V->Bool
 | [.mp _]=>false
 | [.sit _ _]=>false
 | [.buf _]=>false
 |_=>true
def V.gone:List V->Bool
 | []=>true
 | [.buf []]=>true
 |_=>false
def VO.plain {G:Gh} {room:Nat} {cells:List V} {o:Obj} (h:VO G room cells o) (a:V.plain cells=true):
  ∃C el,o= .cells C el (0,0)∧cells.length<=C.size∧(∀(i:Nat) (v:V) (c:Value),cells[i]? =some v->C[i]? =some c->VR G v c)∧room<=C.size:=by
 cases h with
 |cells b e f=>exact⟨_,_,rfl,b,e,f⟩
 |mp _ _=>simp [V.plain]at a
 |sit _ _=>simp [V.plain]at a
 |buf _ _ _ _=>simp [V.plain]at a
def VRs.vo {G:Gh} {cells:List V} {C:Array Value} (el:TypeId) (h:VRs G cells C) (r:Nat) (a:r<=C.size):VO G r cells (.cells C el (0,0)):=
 .cells (Nat.le_of_eq h.1) h.2 a
structure Rel (gl:Nat->List V) (w0:xi) (G:Gh) (st:St) (w:World):Prop where
 below:ZU w0 w
 vars:∀(id:Nat) (cells:List V),st.vars[id]? =some cells->V.gone cells=false->∃b o,G.var id=some b∧w0.mine b∧w.heap[b]? =some o ∧
  VO G (G.room id) cells o∧(∀i,G.imm b i=none)
 varlt:∀id b,id<st.vars.length->G.var id=some b->b<w.heap.size
 sc:∀(id:Nat) (cells:List V),st.vars[id]? =some cells->V.scs st cells
 disj:∀(i j b:Nat) (ci cj:List V),st.vars[i]? =some ci->V.gone ci=false->st.vars[j]? =some cj->V.gone cj=false->G.var i=some b->G.var j=some b->i=j
 imm:∀b i v,G.imm b i=some v->V.pcell v=true∧∃c,w.cell? ⟨b,i,none⟩=some c∧VR G v c
 fam:∀(t p b e lim:Nat),st.fams[t]? =some p->G.tip t p=some (b,e,lim)->w0.mine b∧∃C el,w.heap[b]? =some (.cells C el (0,0))∧lim<=C.size ∧
  (∀i,e<=i->G.imm b i=none)∧(∀(id:Nat) (cs:List V),st.vars[id]? =some cs->V.gone cs=false->G.var id≠some b)
 famdisj:∀(t t' p p' b e l e' l':Nat),st.fams[t]? =some p->st.fams[t']? =some p'->G.tip t p=some (b,e,l)->G.tip t' p'=some (b,e',l')->t=t'
 glob:∀(g i:Nat) (v:V),(gl g)[i]? =some v->G.imm g i=some v
 gfix:∀g,gl g≠ []->¬w0.mine g∧∃C el fz,w0.w.heap[g]? =some (.cells C el fz)∧C.size=(gl g).length
 old:∀(b i:Nat),¬w0.mine b->G.imm b i=w0.I b i
def Ku {w:World} {b i:Nat} {c:Value} (h:w.cell? ⟨b,i,none⟩=some c):b<w.heap.size:=by
 unfold World.cell? at h;rcases iS b w.heap.size with a|a
 ·exact a
 ·simp [Array.getElem?_eq_none a]at h
def heap_lt {w:World} {b:Nat} {o:Obj} (h:w.heap[b]? =some o):b<w.heap.size:=by
 rcases iS b w.heap.size with a|a
 ·exact a
 ·simp [Array.getElem?_eq_none a]at h
def xR {w:World} {b i:Nat} {C:Array Value} {el:TypeId} {fz:Nat×Nat} (h:w.heap[b]? =some (.cells C el fz)):w.cell? ⟨b,i,none⟩=C[i]? :=by
 simp [World.cell?,h]
def bS {w w':World} {b i:Nat} (h:w'.heap[b]? =w.heap[b]?):w'.cell? ⟨b,i,none⟩=w.cell? ⟨b,i,none⟩:=by
 simp [World.cell?,h]
section
variable {gl:Nat->List V} {w0:xi} {G:Gh} {st:St} {w:World}
def Rel.var_lt (h:Rel gl w0 G st w) {id b:Nat} (a:id<st.vars.length) (c:G.var id=some b):b<w.heap.size:=h.varlt id b a c
def Rel.im (h:Rel gl w0 G st w) {b i:Nat} {v:V} (n:G.Im b i v):V.pcell v=true∧∃c,w.cell? ⟨b,i,none⟩=some c∧VR G v c:=by
 obtain⟨u,a,f⟩:=n;obtain⟨j,c,g,k⟩:=h.imm b i u a;rcases f with rfl|⟨x,y,rfl,rfl⟩
 ·exact⟨j,c,g,k⟩
 ·refine⟨by simpa [V.pcell,V.pure,V.isCell] using j,c,g, ?_⟩
  cases k with
  |sl a f l=>exact .sl (fun i e m=>by simp at m) trivial l
  |slnil=>exact .slnil _ _
  |slz=>exact .slz _ _
def Rel.imm_lt (h:Rel gl w0 G st w) {b i:Nat} {v:V} (a:G.imm b i=some v):b<w.heap.size:=by
 obtain⟨_,c,e,_⟩:=h.imm b i v a;exact Ku e
def Rel.imm_new (h:Rel gl w0 G st w) (i:Nat):G.imm w.heap.size i=none:=by
 cases a:G.imm w.heap.size i with
 |none=>rfl
 |some v=>exact absurd (h.imm_lt a) (Nat.lt_irrefl _)
def Rel.of_heap (h:Rel gl w0 G st w) {w':World} (a:w'.heap=w.heap) (g:w'.os=w.os) (l:w'.tape=w.tape) (e:w'.output=w.output):Rel gl w0 G st w' where
 below:=h.below.step g l e (by rw [a]; exact iP _) (fun k _ _=>by rw [a])
 vars:=by rw [a]; exact h.vars
 varlt:=by rw [a]; exact h.varlt
 sc:=h.sc
 disj:=h.disj
 imm:=fun b i v m=>by
  obtain⟨e,c,f,j⟩:=h.imm b i v m;exact⟨e,c,by rw [bS (w:=w) (by rw [a])]; exact f,j⟩
 fam:=by rw [a]; exact h.fam
 famdisj:=h.famdisj
 glob:=h.glob
 gfix:=h.gfix
 old:=h.old
def Rel.grow (h:Rel gl w0 G st w) (o:Obj):Rel gl w0 G st (w.alloc o) where
 below:=h.below.alloc o
 vars:=fun id cells f r=>by
  obtain⟨b,A,g,j,a,k,m⟩:=h.vars id cells f r;exact⟨b,A,g,j,by rw [Below.heap_alloc _ _ _ (heap_lt a)]; exact a,k,m⟩
 varlt:=fun id b q n=>Nat.lt_of_lt_of_le (h.varlt id b q n) (by show _<=(w.heap.push o).size; simp)
 sc:=h.sc
 disj:=h.disj
 imm:=fun b i v z=>by
  obtain⟨s,c,f,x⟩:=h.imm b i v z;exact⟨s,c,by rw [bS (w:=w) (Below.heap_alloc _ _ _ (Ku f))]; exact f,x⟩
 fam:=fun t p b e lim y g=>by
  obtain⟨j,C,l,a,k⟩:=h.fam t p b e lim y g;exact⟨j,C,l,by rw [Below.heap_alloc _ _ _ (heap_lt a)]; exact a,k⟩
 famdisj:=h.famdisj
 glob:=h.glob
 gfix:=h.gfix
 old:=h.old
def YU (w:World) (o:Obj):(w.alloc o).heap[w.heap.size]? =some o:=by
 show(w.heap.push o)[w.heap.size]? =_;simp
def D8 (w:World) (o:Obj):(w.alloc o).heap.size=w.heap.size+1:=by
 show(w.heap.push o).size=_;simp
def Gh.setVar (G:Gh) (id b:Nat) (r:Nat:=0):Gh:={G with var:=fun k=>if k=id then some b else G.var k,room:=fun k=>if k=id then r else G.room k}
def Gh.setTip (G:Gh) (t p:Nat) (x:Nat×Nat×Nat):Gh:={G with tip:=fun b a=>if b=t∧a=p then some x else G.tip b a}
def Gh.setImm (G:Gh) (b:Nat) (f:Nat->Option V):Gh:={G with imm:=fun a i=>if a=b then f i else G.imm a i}
def St.push (st:St) (cells:List V):St:={st with vars:=st.vars ++ [cells]}
def St.pushFam (st:St) (p:Nat):St:={st with fams:=st.fams ++ [p]}
def St.setFam (st:St) (t p:Nat):St:={st with fams:=st.fams.set t p}
def St.put (st:St) (id:Nat) (cells:List V):St:={st with vars:=st.vars.set id cells}
def St.le_push (st:St) (cells:List V):st.le (st.push cells):=⟨by simp [St.push],fun t p h=>⟨p,h,iP _⟩⟩
def St.le_put (st:St) (id:Nat) (cells:List V):st.le (st.put id cells):=⟨by simp [St.put],fun t p h=>⟨p,h,iP _⟩⟩
def St.le_pushFam (st:St) (p:Nat):st.le (st.pushFam p):=
 ⟨by simp [St.pushFam],fun t q h=>⟨q,by
  have:t<st.fams.length:=by
   rcases iS t st.fams.length with a|a
   ·exact a
   ·simp [iN a]at h
  simp [St.pushFam,iU this,h],iP _⟩⟩
def St.le_setFam (st:St) {t p q:Nat} (h:st.fams[t]? =some q) (c:q<=p):st.le (st.setFam t p):=
 ⟨by simp [St.setFam],fun g f a=>by
  have b:t<st.fams.length:=by
   rcases iS t st.fams.length with a|a
   ·exact a
   ·simp [iN a]at h
  by_cases e:g=t
  ·subst e;rw [h]at a; cases a;exact⟨p,by simp [St.setFam,b],c⟩
  ·exact⟨f,by simp [St.setFam,Ne.symm e,a],iP _⟩⟩
def VO.ext {G':Gh} (l:Ext st G G') {r:Nat} {g:List V} {o:Obj} (h:VO G r g o) (m:V.scs st g):VO G' r g o:=by
 cases h with
 |cells b j k=>exact .cells b (fun i v c a f=>(j i v c a f).ext l ((V.scs_iff st g).1 m v (iQ a))) k
 |mp e b=>exact .mp e ⟨b.1,fun i v c a f=>(b.2 i v c a f).pure_ext l.imm (e v (iQ a))⟩
 |sit _ _=>exact .sit _ _
 |buf e b j k=>exact .buf e b (fun i v c a f=>(j i v c a f).pure_ext l.imm (V.pure_of_pcell (e v (iQ a)))) k
def wF {α:Type} {l:List α} {i:Nat} {x:α} (h:l[i]? =some x):i<l.length:=by
 rcases iS i l.length with a|a
 ·exact a
 ·simp [iN a]at h
def V.scs_gone (st:St) {c:List V} (h:V.gone c=true):V.scs st c:=by
 unfold V.gone at h;split at h
 ·trivial
 ·simp [V.scs,V.sc]
 ·cases h
def Rel.newObj (h:Rel gl w0 G st w) (cells:List V) (o:Obj) (r:Nat) (K:VO G r cells o) (P:V.scs st cells):
  Rel gl w0 (G.setVar st.vars.length w.heap.size r) (st.push cells) (w.alloc o)∧Ext st G (G.setVar st.vars.length w.heap.size r):=by
 have q:Ext st G (G.setVar st.vars.length w.heap.size r):=⟨fun _ _ _ h=>h,fun id m=>by simp [Gh.setVar,Nat.ne_of_lt m],fun _ _ _ _ _=>rfl,fun id m=>by simp [Gh.setVar,Nat.ne_of_lt m]⟩
 have N:=St.le_push st cells;refine⟨?_,q⟩;have x:=h.grow o
 have key:∀(id:Nat) (f:List V),(st.push cells).vars[id]? =some f->(id<st.vars.length∧st.vars[id]? =some f)∨(id=st.vars.length∧f=cells):=by
  intro id f a;simp only [St.push]at a;rcases iS id st.vars.length with s|s
  ·rw [iU s]at a;exact .inl ⟨s,a⟩
  ·rw [List.getElem?_append_right s]at a
   have:id-st.vars.length=0:=by
    rcases Nat.eq_zero_or_pos (id-st.vars.length)with L|L
    ·exact L
    ·rw [iN O3]at a; simp at a
   rw [this]at a;simp at a;exact .inr ⟨O0,a.symm⟩
 exact {
  below:=x.below
  vars:=by
   intro id f a F;rcases key id f a with⟨n,a⟩|⟨rfl,rfl⟩
   ·obtain⟨b,X,g,k,y,z,A⟩:=x.vars id f a F;exact⟨b,X,by rw [q.var id n]; exact g,k,y,by rw [q.room id n]; exact z.ext q (h.sc id f a),A⟩
   ·exact⟨w.heap.size,o,by simp [Gh.setVar], .inl h.below.size,YU w _,by simpa [Gh.setVar] using K.ext q P,fun i=>h.imm_new i⟩
  varlt:=by
   intro id b l B;simp only [St.push,iO,List.length_singleton]at l;rw [D8]
   by_cases e:id=st.vars.length
   ·simp [Gh.setVar,e]at B; omega
   ·simp [Gh.setVar,e]at B;have:=h.varlt id b O0 B;omega
  sc:=by
   intro id f a;rcases key id f a with⟨n,a⟩|⟨rfl,rfl⟩
   ·exact V.scs_mono N _ (h.sc id f a)
   ·exact V.scs_mono N _ P
  disj:=by
   intro i j b ci cj l H E I g k;simp only [Gh.setVar]at g k;rcases key i ci l with⟨li,l⟩|⟨rfl,rfl⟩<;>rcases key j cj E with⟨lj,E⟩|⟨rfl,rfl⟩
   ·simp [Nat.ne_of_lt li]at g; simp [Nat.ne_of_lt lj]at k;exact h.disj i j b ci cj l H E I g k
   ·simp [Nat.ne_of_lt li]at g; simp at k;have:=h.var_lt li g;omega
   ·simp at g; simp [Nat.ne_of_lt lj]at k;have:=h.var_lt lj k;omega
   ·rfl
  imm:=by
   intro b i v K;obtain⟨O,c,a,W⟩:=x.imm b i v K;exact⟨O,c,a,W.pure_ext q.imm (V.pure_of_pcell O)⟩
  fam:=by
   intro t p b e lim Q g;obtain⟨k,C',el',y,z,A,U⟩:=x.fam t p b e lim Q g;refine⟨k,C',el',y,z,A, ?_⟩;intro id f C F;simp only [Gh.setVar];rcases key id f C with⟨li,l⟩|⟨rfl,rfl⟩
   ·simp only [Nat.ne_of_lt li,if_false];exact U id f l F
   ·simp only [if_true];intro M; injection M with M;obtain⟨Y,C2,S,T,_⟩:=h.fam t p b e lim Q g;have:=heap_lt T;omega
  famdisj:=h.famdisj
  glob:=h.glob
  gfix:=h.gfix
  old:=h.old}
def Rel.newVar (h:Rel gl w0 G st w) (cells:List V) (C:Array Value) (el:TypeId) (b:VRs G cells C) (a:V.scs st cells):
  Rel gl w0 (G.setVar st.vars.length w.heap.size) (st.push cells) (w.alloc (.cells C el))∧Ext st G (G.setVar st.vars.length w.heap.size):=
 h.newObj cells _ 0 (b.vo el 0 (Nat.zero_le _)) a
def St.put_get {st:St} {id id':Nat} {cells cs:List V} (a:(st.put id cells).vars[id']? =some cs):
  (id'=id∧cs=cells)∨(id'≠id∧st.vars[id']? =some cs):=by
 simp only [St.put,List.getElem?_set]at a
 by_cases e:id=id'
 ·subst e;simp only [if_true]at a;split at a
  ·injection a with a; exact .inl ⟨rfl,a.symm⟩
  ·cases a
 ·simp only [e,if_false]at a;exact .inr ⟨fun x=>e x.symm,a⟩
def Rel.storeO (h:Rel gl w0 G st w) {id b:Nat} {w':World} {cells0 cells:List V} {o:Obj}
  (m:st.vars[id]? =some cells0) (g:V.gone cells0=false) (E:G.var id=some b) (n:Chg w w' b o) (hv:VO G (G.room id) cells o) (hs:V.scs st cells):Rel gl w0 G (st.put id cells) w':=by
 have hbB:w0.mine b∧∀i,G.imm b i=none:=by
  obtain⟨f,P,l,q,B,C,H⟩:=h.vars id _ m g;rw [E]at l; cases l;exact⟨q,H⟩
 have O:=St.le_put st id cells;have z:(st.put id cells).vars.length=st.vars.length:=by simp [St.put]
 exact {
  below:=h.below.step n.os n.tape n.output (by rw [n.size]; exact iP _) (fun k _ Y=>n.other k (fun e=>Y (e▸hbB.1)))
  vars:=by
   intro id' F a y;rcases St.put_get a with⟨rfl,rfl⟩|⟨A,a⟩
   ·exact⟨b,o,E,hbB.1,n.at_,hv,hbB.2⟩
   ·obtain⟨f,P,l,q,B,C⟩:=h.vars id' F a y;have:f≠b:=fun e=>A (h.disj id' id b _ _ a y m g (e▸l) E);exact⟨f,P,l,q,by rw [n.other f this]; exact B,C⟩
  varlt:=by rw [z,n.size]; exact h.varlt
  sc:=by
   intro id' F a;rcases St.put_get a with⟨rfl,rfl⟩|⟨g,a⟩
   ·exact V.scs_mono O _ hs
   ·exact V.scs_mono O _ (h.sc id' F a)
  disj:=by
   intro i j f ci cj W L X M l q
   have k:∀(x:Nat) (c:List V),(st.put id cells).vars[x]? =some c->V.gone c=false->∃N,st.vars[x]? =some N∧V.gone N=false:=by
    intro x c s y;rcases St.put_get s with⟨rfl,rfl⟩|⟨_,s⟩
    ·exact⟨_,m,g⟩
    ·exact⟨_,s,y⟩
   obtain⟨_,Q,S⟩:=k i ci W L;obtain⟨_,T,U⟩:=k j cj X M;exact h.disj i j f _ _ Q S T U l q
  imm:=by
   intro f i v r;obtain⟨Z,c,K,hr⟩:=h.imm f i v r;refine⟨Z,c, ?_,hr⟩
   have:f≠b:=by
    rintro rfl;rw [hbB.2 i]at r; cases r
   rw [bS (w:=w) (n.other f this)]; exact K
  fam:=by
   intro t p f e lim ht l;obtain⟨q,C',el',B,C,H,I⟩:=h.fam t p f e lim ht l
   have:f≠b:=by
    rintro rfl;exact I id _ m g E
   refine⟨q,C',el',by rw [n.other f this]; exact B,C,H, ?_⟩;intro x c s y;rcases St.put_get s with⟨rfl,rfl⟩|⟨_,s⟩
   ·exact I x _ m g
   ·exact I x c s y
  famdisj:=h.famdisj
  glob:=h.glob
  gfix:=h.gfix
  old:=h.old}
def Rel.store (h:Rel gl w0 G st w) {id b:Nat} {w':World} {cells0 cells:List V} {C:Array Value} {el:TypeId}
  (a:st.vars[id]? =some cells0) (c:V.gone cells0=false) (e:G.var id=some b) (f:Chg w w' b (.cells C el (0,0))) (i:VO G (G.room id) cells (.cells C el (0,0))) (g:V.scs st cells):Rel gl w0 G (st.put id cells) w':=
 h.storeO a c e f i g
def Rel.kill (h:Rel gl w0 G st w) (id:Nat):Rel gl w0 G (st.put id []) w:=by
 have k:∀(x:Nat) (c:List V),(st.put id []).vars[x]? =some c->V.gone c=false->st.vars[x]? =some c:=by
  intro x c a f;rcases St.put_get a with⟨rfl,rfl⟩|⟨_,a⟩
  ·exact absurd f (by simp [V.gone])
  ·exact a
 exact {
  below:=h.below
  vars:=fun x c a f=>h.vars x c (k x c a f) f
  varlt:=by
   have g:(st.put id []).vars.length=st.vars.length:=by simp [St.put]
   rw [g]; exact h.varlt
  sc:=by
   intro x c a;rcases St.put_get a with⟨rfl,rfl⟩|⟨_,a⟩
   ·trivial
   ·exact V.scs_mono (St.le_put st id []) _ (h.sc x c a)
  disj:=fun i j b ci cj y l z m=>h.disj i j b ci cj (k i ci y l) l (k j cj z m) m
  imm:=h.imm
  fam:=fun t p b e lim A n=>by
   obtain⟨o,C',el',q,r,s,v⟩:=h.fam t p b e lim A n;exact⟨o,C',el',q,r,s,fun x c a f=>v x c (k x c a f) f⟩
  famdisj:=h.famdisj
  glob:=h.glob
  gfix:=h.gfix
  old:=h.old}
def Gh.setNone_ext (G:Gh) (st:St):Ext st G {G with var:=fun k=>if k=st.vars.length then none else G.var k}:=
 ⟨fun _ _ _ h=>h,fun id a=>by simp [Nat.ne_of_lt a],fun _ _ _ _ _=>rfl,fun _ _=>rfl⟩
def Rel.nilVar (h:Rel gl w0 G st w):Rel gl w0 {G with var:=fun k=>if k=st.vars.length then none else G.var k} (st.push [.buf []]) w:=by
 have s:=Gh.setNone_ext G st;have N:=St.le_push st [.buf []]
 have k:∀(x:Nat) (c:List V),(st.push [.buf []]).vars[x]? =some c->V.gone c=false->x<st.vars.length∧st.vars[x]? =some c:=by
  intro x c a g;simp only [St.push]at a;rcases iS x st.vars.length with r|r
  ·rw [iU r]at a; exact⟨r,a⟩
  ·rw [List.getElem?_append_right r]at a;rcases Nat.eq_zero_or_pos (x-st.vars.length)with F|F
   ·rw [F]at a; simp at a; subst a; exact absurd g (by simp [V.gone])
   ·rw [iN O3]at a; simp at a
 exact {
  below:=h.below
  vars:=fun x c a g=>by
   obtain⟨lx,a⟩:=k x c a g;obtain⟨b,o,l,m,y,z,K⟩:=h.vars x c a g;exact⟨b,o,by rw [s.var x lx]; exact l,m,y,by rw [s.room x lx]; exact z.ext s (h.sc x c a),K⟩
  varlt:=by
   intro id b f A;simp only [St.push,iO,List.length_singleton]at f
   by_cases e:id=st.vars.length
   ·simp [e]at A
   ·simp [e]at A;exact h.varlt id b O0 A
  sc:=by
   intro x c a
   cases H:V.gone c with
   |true=>exact V.scs_gone _ H
   |false=>exact V.scs_mono N _ (h.sc x _ (k x _ a H).2)
  disj:=by
   intro i j b ci cj f n C q l m;obtain⟨li,f⟩:=k i ci f n;obtain⟨lj,C⟩:=k j cj C q;simp only [Nat.ne_of_lt li,Nat.ne_of_lt lj,if_false]at l m;exact h.disj i j b ci cj f n C q l m
  imm:=by
   intro b i v Q;obtain⟨I,c,a,O⟩:=h.imm b i v Q;exact⟨I,c,a,O.pure_ext s.imm (V.pure_of_pcell I)⟩
  fam:=by
   intro t p b e lim P l;obtain⟨m,C',el',y,z,L,M⟩:=h.fam t p b e lim P l;refine⟨m,C',el',y,z,L, ?_⟩;intro id E B g;obtain⟨li,f⟩:=k id E B g;simp only [Nat.ne_of_lt li,if_false];exact M id E f g
  famdisj:=h.famdisj
  glob:=h.glob
  gfix:=h.gfix
  old:=h.old}
def Rel.moveVar (h:Rel gl w0 G st w) {id b:Nat} {cells:List V} (a:st.vars[id]? =some cells) (l:V.gone cells=false) (K:G.var id=some b):
  Rel gl w0 (G.setVar st.vars.length b (G.room id)) ((st.put id []).push cells) w∧Ext st G (G.setVar st.vars.length b (G.room id)):=by
 have s:Ext st G (G.setVar st.vars.length b (G.room id)):=⟨fun _ _ _ h=>h,fun id a=>by simp [Gh.setVar,Nat.ne_of_lt a],fun _ _ _ _ _=>rfl,fun id a=>by simp [Gh.setVar,Nat.ne_of_lt a]⟩
 refine⟨?_,s⟩;have k:(st.put id []).vars.length=st.vars.length:=by simp [St.put]
 have U:st.le ((st.put id []).push cells):=(St.le_put st id []).trans (St.le_push _ _);have lid:=wF a
 have key:∀(x:Nat) (g:List V),((st.put id []).push cells).vars[x]? =some g->V.gone g=false->(x<st.vars.length∧x≠id∧st.vars[x]? =some g)∨(x=st.vars.length∧g=cells):=by
  intro x g f z;simp only [St.push]at f;rcases iS x st.vars.length with I|I
  ·rw [iU (by rw [k]; exact I)]at f;rcases St.put_get f with⟨rfl,rfl⟩|⟨l,s⟩
   ·exact absurd z (by simp [V.gone])
   ·exact .inl ⟨I,l,s⟩
  ·rw [List.getElem?_append_right (by rw [k]; exact I),k]at f
   have:x-st.vars.length=0:=by
    rcases Nat.eq_zero_or_pos (x-st.vars.length)with Q|Q
    ·exact Q
    ·rw [iN O3]at f; simp at f
   rw [this]at f;simp at f;exact .inr ⟨O0,f.symm⟩
 obtain⟨b0,o,L,v2,X,v4,v5⟩:=h.vars id cells a l;rw [K]at L; cases L;have H:=h.sc id cells a
 exact {
  below:=h.below
  vars:=by
   intro x g f z;rcases key x g f z with⟨lx,_,f⟩|⟨rfl,rfl⟩
   ·obtain⟨q,o',m,n,M,N,Y⟩:=h.vars x g f z;exact⟨q,o',by rw [s.var x lx]; exact m,n,M,by rw [s.room x lx]; exact N.ext s (h.sc x g f),Y⟩
   ·exact⟨b,o,by simp [Gh.setVar],v2,X,by simpa [Gh.setVar] using v4.ext s H,v5⟩
  varlt:=by
   intro x q C r;simp only [St.push,iO,List.length_singleton,k]at C
   by_cases e:x=st.vars.length
   ·simp [Gh.setVar,e]at r; subst r; exact heap_lt X
   ·simp [Gh.setVar,e]at r;exact h.varlt x q O0 r
  sc :=by
   intro x g f
   cases T:V.gone g with
   |true=>exact V.scs_gone _ T
   | false=>
    rcases key x _ f T with⟨_,_,y⟩|⟨_,y⟩
    ·exact V.scs_mono U _ (h.sc x _ y)
    ·rw [y]; exact V.scs_mono U _ H
  disj:=by
   intro i j q ci cj C A hj B m n;simp only [Gh.setVar]at m n;rcases key i ci C A with⟨li,ni,E⟩|⟨ei,_⟩<;>rcases key j cj hj B with⟨lj,nj,F⟩|⟨ej,_⟩
   ·simp [Nat.ne_of_lt li]at m; simp [Nat.ne_of_lt lj]at n;exact h.disj i j q ci cj E A F B m n
   ·simp [Nat.ne_of_lt li]at m; simp [ej]at n; subst n;exact absurd (h.disj i id b _ _ E A a l m K) ni
   ·simp [ei]at m; simp [Nat.ne_of_lt lj]at n; subst m;exact absurd (h.disj j id b _ _ F B a l n K) nj
   ·rw [ei,ej]
  imm:=by
   intro q i v hv;obtain⟨W,c,f,hr⟩:=h.imm q i v hv;exact⟨W,c,f,hr.pure_ext s.imm (V.pure_of_pcell W)⟩
  fam:=by
   intro t p q e lim ht m;obtain⟨n,C',el',M,N,Z,S⟩:=h.fam t p q e lim ht m;refine⟨n,C',el',M,N,Z, ?_⟩;intro x g O z;simp only [Gh.setVar];rcases key x g O z with⟨li,_,C⟩|⟨rfl,rfl⟩
   ·simp only [Nat.ne_of_lt li,if_false];exact S x g C z
   ·simp only [if_true];intro P; cases P;exact S id _ a l K
  famdisj:=h.famdisj
  glob:=h.glob
  gfix:=h.gfix
  old:=h.old}
def Rel.newRow (h:Rel gl w0 G st w) (f:Nat->Option V) (C:Array Value) (el:TypeId) (fz:Nat×Nat)
  (M:∀i v,f i=some v->V.pcell v=true∧∃c,C[i]? =some c∧VR G v c):
  Rel gl w0 (G.setImm w.heap.size f) st (w.alloc (.cells C el fz))∧Ext st G (G.setImm w.heap.size f):=by
 have a:∀b i v,G.imm b i=some v->(G.setImm w.heap.size f).imm b i=some v:=by
  intro b i v j;have:=h.imm_lt j;simp [Gh.setImm,Nat.ne_of_lt this,j]
 have H:Ext st G (G.setImm w.heap.size f):=⟨a,fun _ _=>rfl,fun _ _ _ _ _=>rfl,fun _ _=>rfl⟩
 have m:=h.grow (.cells C el fz)
 refine ⟨{
  below:=m.below
  vars:=by
   intro id B k O;obtain⟨b,P,l,q,r,s,x⟩:=m.vars id B k O;refine⟨b,P,l,q,r,s.ext H (h.sc id B k), ?_⟩;intro i
   have z:id<st.vars.length:=by
    rcases iS id st.vars.length with o|o
    ·exact o
    ·simp [iN o]at k
   have:=h.var_lt z l;simp [Gh.setImm,Nat.ne_of_lt this,x i]
  sc:=h.sc
  varlt:=m.varlt
  disj:=h.disj
  imm:=by
   intro b i v j
   by_cases e:b=w.heap.size
   ·subst e;simp only [Gh.setImm,if_true]at j;obtain⟨n,c,y,A⟩:=M i v j;exact⟨n,c,by rw [xR (YU w _)]; exact y,A.pure_ext a (V.pure_of_pcell n)⟩
   ·simp only [Gh.setImm,e,if_false]at j;obtain⟨n,c,y,A⟩:=m.imm b i v j;exact⟨n,c,y,A.pure_ext a (V.pure_of_pcell n)⟩
  fam:=by
   intro t p b e lim F l;obtain⟨q,C',el',r,s,x,L⟩:=m.fam t p b e lim F l;refine⟨q,C',el',r,s, ?_,L⟩;obtain⟨Q,C2,I,K,_⟩:=h.fam t p b e lim F l;have:=heap_lt K;intro i N;simp [Gh.setImm,Nat.ne_of_lt this,x i N]
  famdisj:=h.famdisj
  glob:=fun g i v j=>a g i v (h.glob g i v j)
  gfix:=h.gfix
  old:=by
   intro b i E;have:b≠w.heap.size:=fun e=>E (.inl (e▸h.below.size));simp only [Gh.setImm,this,if_false]
   exact h.old b i E},H⟩
def Rel.newFam (h:Rel gl w0 G st w) {b e lim p:Nat} {C:Array Value} {el:TypeId} (hbB:w0.mine b)
  (T:w.heap[b]? =some (.cells C el (0,0))) (s:lim<=C.size) (B:∀i,e<=i->G.imm b i=none)
  (Z:∀(id:Nat) (cs:List V),st.vars[id]? =some cs->V.gone cs=false->G.var id≠some b)
  (hd:∀(t q A l':Nat),st.fams[t]? =some q->G.tip t q≠some (b,A,l')):
  Rel gl w0 (G.setTip st.fams.length p (b,e,lim)) (st.pushFam p) w∧Ext st G (G.setTip st.fams.length p (b,e,lim)):=by
 have E:∀(t q:Nat),st.fams[t]? =some q->t<st.fams.length:=by
  intro t q o;rcases iS t st.fams.length with k|k
  ·exact k
  ·simp [iN k]at o
 have j:Ext st G (G.setTip st.fams.length p (b,e,lim)):=⟨fun _ _ _ h=>h,fun _ _=>rfl,fun t q _ X _=>by
  have:=E t _ X
  simp [Gh.setTip,Nat.ne_of_lt this],fun _ _=>rfl⟩
 have U:=St.le_pushFam st p
 have key:∀(t q:Nat),(st.pushFam p).fams[t]? =some q->(t<st.fams.length∧st.fams[t]? =some q)∨(t=st.fams.length∧q=p):=by
  intro t q a;simp only [St.pushFam]at a;rcases iS t st.fams.length with o|o
  ·rw [iU o]at a;exact .inl ⟨o,a⟩
  ·rw [List.getElem?_append_right o]at a
   have:t-st.fams.length=0:=by
    rcases Nat.eq_zero_or_pos (t-st.fams.length)with K|K
    ·exact K
    ·rw [iN O3]at a; simp at a
   rw [this]at a;simp at a;exact .inr ⟨O0,a.symm⟩
 refine ⟨{
  below:=h.below
  vars:=by
   intro id cs g W;obtain⟨r,o',k,f,P,Q,S⟩:=h.vars id cs g W;exact⟨r,o',k,f,P,Q.ext j (h.sc id cs g),S⟩
  varlt:=h.varlt
  sc:=fun id cs g=>V.scs_mono U _ (h.sc id cs g)
  disj:=h.disj
  imm:=by
   intro r i v I;obtain⟨L,c,a,Y⟩:=h.imm r i v I;exact⟨L,c,a,Y.pure_ext j.imm (V.pure_of_pcell L)⟩
  fam:=by
   intro t q r A lim' F y;rcases key t q F with⟨k,f⟩|⟨rfl,rfl⟩
   ·exact h.fam t q r A lim' f (by rw [j.tip t q q f (iP _)]at y; exact y)
   ·simp [Gh.setTip]at y;obtain⟨rfl,rfl,rfl⟩:=y;exact⟨hbB,C,el,T,s,B,Z⟩
  famdisj:=by
   intro t x q l M N l1 O l2 F H m n;rcases key t q F with⟨k,f⟩|⟨rfl,rfl⟩<;>rcases key x l H with⟨k1,z⟩|⟨rfl,rfl⟩
   ·rw [j.tip t q q f (iP _)]at m;rw [j.tip x l l z (iP _)]at n;exact h.famdisj t x q l M N l1 O l2 f z m n
   ·rw [j.tip t q q f (iP _)]at m;simp [Gh.setTip]at n;obtain⟨rfl,_⟩:=n;exact absurd m (hd t q _ _ f)
   ·rw [j.tip x l l z (iP _)]at n;simp [Gh.setTip]at m;obtain⟨rfl,_⟩:=m;exact absurd n (hd x l _ _ z)
   ·rfl
  glob:=h.glob
  gfix:=h.gfix
  old:=h.old},j⟩
def Rel.nilFam (h:Rel gl w0 G st w):∃G',Rel gl w0 G' (st.pushFam 0) w∧Ext st G G':=by
 refine⟨{G with tip:=fun g m=>if g=st.fams.length then none else G.tip g m}, ?_, ?_⟩
 ·have y:∀(t q:Nat),st.fams[t]? =some q->t<st.fams.length:=by
   intro t q n;rcases iS t st.fams.length with a|a
   ·exact a
   ·simp [iN a]at n
  have N:=St.le_pushFam st 0
  have key:∀(t q:Nat) (x:Nat×Nat×Nat),(st.pushFam 0).fams[t]? =some q->(if t=st.fams.length then none else G.tip t q)=some x->st.fams[t]? =some q∧G.tip t q=some x:=by
   intro t q x j k;split at k
   ·cases k
   ·rename_i P;simp only [St.pushFam]at j;rcases iS t st.fams.length with n|n
    ·rw [iU n]at j;exact⟨j,k⟩
    ·rw [List.getElem?_append_right n,iN O3]at j; cases j
  have k:Ext st G {G with tip:=fun g m=>if g=st.fams.length then none else G.tip g m}:=⟨fun _ _ _ h=>h,fun _ _=>rfl,fun t p q z _=>by simp [Nat.ne_of_lt (y t q z)],fun _ _=>rfl⟩
  exact {
   below:=h.below
   vars:=by
    intro id o f O;obtain⟨r,X,a,s,K,L,M⟩:=h.vars id o f O;exact⟨r,X,a,s,K,L.ext k (h.sc id o f),M⟩
   varlt:=h.varlt
   sc:=fun id o f=>V.scs_mono N _ (h.sc id o f)
   disj:=h.disj
   imm:=by
    intro r i v A;obtain⟨E,c,j,Q⟩:=h.imm r i v A;exact⟨E,c,j,Q.pure_ext k.imm (V.pure_of_pcell E)⟩
   fam:=by
    intro t p b e lim S a;obtain⟨B,C⟩:=key t p _ S a;exact h.fam t p b e lim B C
   famdisj:=by
    intro t g p m b e l F W a s H I;obtain⟨B,C⟩:=key t p _ a H;obtain⟨T,U⟩:=key g m _ s I;exact h.famdisj t g p m b e l F W B T C U
   glob:=h.glob
   gfix:=h.gfix
   old:=h.old}
 ·exact ⟨fun _ _ _ h=>h,fun _ _=>rfl,fun t p q z _=>by
   have:t<st.fams.length:=by
    rcases iS t st.fams.length with a|a
    ·exact a
    ·simp [iN a]at z
   simp [Nat.ne_of_lt this],fun _ _=>rfl⟩
def Rel.moveFam (h:Rel gl w0 G st w) {t p q b e lim:Nat} {C:Array Value} {el:TypeId} (H:st.fams[t]? =some p) (Y:p<q) (hbB:w0.mine b)
  (T:w.heap[b]? =some (.cells C el (0,0))) (z:lim<=C.size) (E:∀i,e<=i->G.imm b i=none)
  (hv:∀(id:Nat) (cs:List V),st.vars[id]? =some cs->V.gone cs=false->G.var id≠some b)
  (hd:∀(a f B l':Nat),st.fams[a]? =some f->G.tip a f=some (b,B,l')->a=t):
  Rel gl w0 (G.setTip t q (b,e,lim)) (st.setFam t q) w∧Ext st G (G.setTip t q (b,e,lim)):=by
 have m:Ext st G (G.setTip t q (b,e,lim)):=⟨fun _ _ _ h=>h,fun _ _=>rfl,fun a p' f r X=>by
  simp only [Gh.setTip];rw [iH];rintro⟨rfl,rfl⟩;rw [H]at r; injection r with r
  omega,fun _ _=>rfl⟩
 have U:=St.le_setFam st H (Nat.le_of_lt Y)
 have F:t<st.fams.length:=by
  rcases iS t st.fams.length with g|g
  ·exact g
  ·simp [iN g]at H
 have key:∀(a f:Nat),(st.setFam t q).fams[a]? =some f->(a≠t∧st.fams[a]? =some f)∨(a=t∧f=q):=by
  intro a f o;simp only [St.setFam,List.getElem?_set]at o
  by_cases e:t=a
  ·subst e; simp [F]at o; exact .inr ⟨rfl,o.symm⟩
  ·simp [e]at o; exact .inl ⟨Ne.symm e,o⟩
 refine ⟨{
  below:=h.below
  vars:=by
   intro id cs l W;obtain⟨y,o',g,n,P,Q,S⟩:=h.vars id cs l W;exact⟨y,o',g,n,P,Q.ext m (h.sc id cs l),S⟩
  varlt:=h.varlt
  sc:=fun id cs l=>V.scs_mono U _ (h.sc id cs l)
  disj:=h.disj
  imm:=by
   intro y i v K;obtain⟨L,c,o,Z⟩:=h.imm y i v K;exact⟨L,c,o,Z.pure_ext m.imm (V.pure_of_pcell L)⟩
  fam:=by
   intro a f y B lim' I A;rcases key a f I with⟨g,n⟩|⟨rfl,rfl⟩
   ·exact h.fam a f y B lim' n (by rw [m.tip a f f n (iP _)]at A; exact A)
   ·simp [Gh.setTip]at A;obtain⟨rfl,rfl,rfl⟩:=A;exact⟨hbB,C,el,T,z,E,hv⟩
  famdisj:=by
   intro t1 t2 q1 q2 M N l1 O l2 g n s x;rcases key t1 q1 g with⟨g,j⟩|⟨rfl,rfl⟩<;>rcases key t2 q2 n with⟨n,k⟩|⟨rfl,rfl⟩
   ·rw [m.tip _ _ _ j (iP _)]at s;rw [m.tip _ _ _ k (iP _)]at x;exact h.famdisj _ _ _ _ M N l1 O l2 j k s x
   ·rw [m.tip _ _ _ j (iP _)]at s;simp [Gh.setTip]at x;obtain⟨rfl,_⟩:=x;exact hd _ _ _ _ j s
   ·rw [m.tip _ _ _ k (iP _)]at x;simp [Gh.setTip]at s;obtain⟨rfl,_⟩:=s;exact(hd _ _ _ _ k x).symm
   ·rfl
  glob:=h.glob
  gfix:=h.gfix
  old:=h.old},m⟩
def Gh.fill (G:Gh) (b e:Nat) (f:Nat->Option V):Gh:={G with imm:=fun a i=>if a=b∧e<=i then f i else G.imm a i}
def Rel.fill (h:Rel gl w0 G st w) {t p q b e e2 lim:Nat} {w':World} {C:Array Value} {el:TypeId} {f:Nat->Option V} (L:st.fams[t]? =some p) (hq:p<q)
  (l:G.tip t p=some (b,e,lim)) (hold:∀(C0:Array Value) I O,w.heap[b]? =some (.cells C0 I O)->el=I∧(0,0)=O∧C.size=C0.size∧∀i:Nat,i<e->C[i]? =C0[i]?)
  (j:Chg w w' b (.cells C el (0,0))) (he:e<=e2)
  (hf:∀i v,f i=some v->i<e2∧V.pcell v=true∧∃c,C[i]? =some c∧VR G v c):
  Rel gl w0 ((G.fill b e f).setTip t q (b,e2,lim)) (st.setFam t q) w'∧Ext st G ((G.fill b e f).setTip t q (b,e2,lim)):=by
 obtain⟨Y,C0,I,g3,g4,g6,g7⟩:=h.fam t p b e lim L l;obtain⟨o1,o2,o3,o4⟩:=hold _ _ _ g3;subst o1
 have o:∀a i v,G.imm a i=some v->(G.fill b e f).imm a i=some v:=by
  intro a i v y;simp only [Gh.fill];split
  ·rename_i F;obtain⟨rfl,F⟩:=F;rw [g6 i F]at y; cases y
  ·exact y
 have hx1:Ext st G (G.fill b e f):=⟨o,fun _ _=>rfl,fun _ _ _ _ _=>rfl,fun _ _=>rfl⟩
 have hother:∀a,a≠b->w'.heap[a]? =w.heap[a]? :=j.other
 have H:Ext st G ((G.fill b e f).setTip t q (b,e2,lim)):=⟨o,fun _ _=>rfl,fun x p' z K hp'=>by
  simp only [Gh.setTip,Gh.fill];rw [iH];rintro⟨rfl,rfl⟩;rw [L]at K; injection K with K
  omega,fun _ _=>rfl⟩
 have hl:=St.le_setFam st L (Nat.le_of_lt hq)
 have hlt:t<st.fams.length:=by
  rcases iS t st.fams.length with M|M
  ·exact M
  ·simp [iN M]at L
 have key:∀(x z:Nat),(st.setFam t q).fams[x]? =some z->(x≠t∧st.fams[x]? =some z)∨(x=t∧z=q):=by
  intro x z j;simp only [St.setFam,List.getElem?_set]at j
  by_cases e:t=x
  ·subst e; simp [hlt]at j; exact .inr ⟨rfl,j.symm⟩
  ·simp [e]at j; exact .inl ⟨Ne.symm e,j⟩
 refine ⟨{
  below:=h.below.step j.os j.tape j.output (by rw [j.size]; exact iP _) (fun k _ W=>j.other k (fun e=>W (e▸Y)))
  vars:=by
   intro id N n hn;obtain⟨a,o',s,m,k3,k4,k6⟩:=h.vars id N n hn;have r:a≠b:=fun F=>g7 id N n hn (F▸s);refine⟨a,o',s,m,by rw [hother a r]; exact k3,k4.ext H (h.sc id N n), ?_⟩;intro i;show(if a=b∧e<=i then f i else G.imm a i)=none;rw [iH (fun F=>r F.1)]; exact k6 i
  varlt:=by rw [j.size]; exact h.varlt
  sc:=fun id N n=>V.scs_mono hl _ (h.sc id N n)
  disj:=h.disj
  imm :=by
   intro a i v y
   by_cases P:a=b∧e<=i
   ·obtain⟨rfl,U⟩:=P;simp only [Gh.setTip,Gh.fill,U,and_self,if_true]at y;obtain⟨_,S,c,E,hr⟩:=hf i v y;exact⟨S,c,by rw [xR j.at_]; exact E,hr.pure_ext H.imm (V.pure_of_pcell S)⟩
   ·simp only [Gh.setTip,Gh.fill,P,if_false]at y;obtain⟨S,c,E,hr⟩:=h.imm a i v y;refine⟨S,c, ?_,hr.pure_ext H.imm (V.pure_of_pcell S)⟩
    by_cases Q:a=b
    ·subst Q;rw [xR j.at_,o4 i O0,<-xR g3]; exact E
    ·rw [bS (w:=w) (hother a Q)]; exact E
  fam :=by
   intro x z a e' lim' ht' T;rcases key x z ht' with⟨s,m⟩|⟨rfl,rfl⟩
   ·rw [H.tip x z z m (iP _)]at T;obtain⟨m2,C',el',m3,m4,m6,m7⟩:=h.fam x z a e' lim' m T
    have r:a≠b:=by
     rintro rfl;exact s (h.famdisj _ _ _ _ _ _ _ _ _ m L T l)
    exact ⟨m2,C',el',by rw [hother a r]; exact m3,m4,
     fun i U=>by simp [Gh.setTip,Gh.fill,r,m6 i U],m7⟩
   ·simp [Gh.setTip]at T;obtain⟨rfl,rfl,rfl⟩:=T;refine⟨Y,C,el,j.at_,O0, ?_,g7⟩;intro i U;have:e<=i:=O0;simp only [Gh.setTip,Gh.fill,this,and_self,if_true]
    cases Z:f i with
    |none=>rfl
    |some v=>have:=(hf i v Z).1; omega
  famdisj:=by
   intro t1 t2 q1 q2 b1 e1 l1 X l2 M h2 s m;rcases key t1 q1 M with⟨M,A⟩|⟨rfl,rfl⟩<;>rcases key t2 q2 h2 with⟨h2,B⟩|⟨rfl,rfl⟩
   ·rw [H.tip _ _ _ A (iP _)]at s;rw [H.tip _ _ _ B (iP _)]at m;exact h.famdisj _ _ _ _ b1 e1 l1 X l2 A B s m
   ·rw [H.tip _ _ _ A (iP _)]at s;simp [Gh.setTip]at m;obtain⟨rfl,_⟩:=m;exact h.famdisj _ _ _ _ _ _ _ _ _ A L s l
   ·rw [H.tip _ _ _ B (iP _)]at m;simp [Gh.setTip]at s;obtain⟨rfl,_⟩:=s;exact(h.famdisj _ _ _ _ _ _ _ _ _ B L m l).symm
   ·rfl
  glob:=fun g i v y=>o g i v (h.glob g i v y)
  gfix:=h.gfix
  old:=by
   intro a i W;have:a≠b:=fun e=>W (e▸Y);show(if a=b∧e<=i then f i else G.imm a i)=_;rw [iH (fun F=>this F.1)]
   exact h.old a i W},H⟩
def Rel.forget (h:Rel gl w0 G st w) {st':St} (I:st'.vars.length<=st.vars.length) (x:∀(t p:Nat),st'.fams[t]? =some p->st.fams[t]? =some p)
  (k:∀(id:Nat) (cs:List V),st'.vars[id]? =some cs->V.scs st' cs∧(V.gone cs=false->∃c,st.vars[id]? =some c∧V.gone c=false∧∀r o,VO G r c o->VO G r cs o)):Rel gl w0 G st' w where
 below:=h.below
 vars:=by
  intro id cs a z;obtain⟨c,f,g,m⟩:=(k id cs a).2 z;obtain⟨n,Y,K,L,M,N,O⟩:=h.vars id c f g;exact⟨n,Y,K,L,M,m _ _ N,O⟩
 varlt:=fun id b y E=>h.varlt id b (Nat.lt_of_lt_of_le y I) E
 sc:=fun id cs a=>(k id cs a).1
 disj:=by
  intro i j b ci cj y A F B s v;obtain⟨_,f,g,_⟩:=(k i ci y).2 A;obtain⟨_,m,C,_⟩:=(k j cj F).2 B;exact h.disj i j b _ _ f g m C s v
 imm:=h.imm
 fam:=by
  intro t p n q lim' H Q;obtain⟨S,C',el',T,U,W,X⟩:=h.fam t p n q lim' (x t p H) Q;refine⟨S,C',el',T,U,W,fun id cs a z=> ?_⟩;obtain⟨c,f,g,_⟩:=(k id cs a).2 z;exact X id c f g
 famdisj:=fun t t' p Z b e l q P s v=>h.famdisj t t' p Z b e l q P (x _ _ s) (x _ _ v)
 glob:=h.glob
 gfix:=h.gfix
 old:=h.old
end
end Go.Abs
end
