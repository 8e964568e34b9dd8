/- Abstract values. No condition. -/
import Derived.Test.YtkabooclnoiclaaGreatDoorA08
set_option linter.all false
section
namespace Go.Abs
open Go.RowKit (Below)
section
variable {P:Program} {gl:Nat->List V} {w0:xi} {G:Gh} {st:St} {w:World}
def ZM (sz:Nat):∀(n:Nat) (l:List V),l.length=n*sz->(jw sz n l).length=n∧(jw sz n l).flatten=l∧∀e∈jw sz n l,e.length=sz
 | 0,l,h=>by
  have:l= []:=List.eq_nil_of_length_eq_zero (O7 h);subst this; simp [jw]
 | n+1,l,h=>by
  rw [Nat.add_mul]at h;obtain⟨b,c,f⟩:=ZM sz n (l.drop sz) O3;refine⟨by simp [jw,b],by simp [jw,c], ?_⟩;intro e a;simp only [jw,List.mem_cons]at a;rcases a with rfl|a
  ·simp; omega
  ·exact f e a
def V.of_cells_length (z:Value):(V.of z).cells.length=z.cells.size:=by
 cases z with
 |agg a=>simp [V.of,V.cells,Value.cells]
 |tuple a=>simp [V.of,V.cells,Value.cells]
 |_=>simp only [V.of]; unfold V.ofCell; split<;>rfl
def jZ {t:TypeId} (h:(ti P t).zok=true):∃i z,P.info? t=some i∧i.zero=some z∧(ti P t).zero=V.of z:=by
 simp only [ti]at h ⊢
 cases a:P.info? t with
 |none=>rw [a]at h; cases h
 | some i=>
  rw [a]at h;obtain⟨z,b⟩:=Option.isSome_iff_exists.1 h;exact⟨i,z,rfl,b,by simp [b]⟩
def zU {t:TypeId} {i:TypeInfo} {z:Value} (hi:P.info? t=some i) (a:i.zero=some z) (w:World):(zeroValue t).run P w= .ok z w:=by
 simp [zeroValue,typeInfo,hi,a]
def XY {b o:Nat} {cs:List V} (k:∀(i:Nat) (v:V),cs[i]? =some v->V.pcell v=true∧∃c,w.cell? ⟨b,o+i,none⟩=some c∧VR G v c):
  ∃e:List Value,e.length=cs.length∧(∀j u,e[j]? =some u->w.cell? ⟨b,o+j,none⟩=some u∧u.oneCell'=true)∧VRs G cs e.toArray:=by
 induction cs generalizing o with
 |nil=>exact⟨[],rfl,O2,rfl,O2⟩
 | cons v r q=>
  obtain⟨p,c,n,h⟩:=k 0 v rfl
  obtain ⟨e,g,l,m⟩:=q (o:=o+1) (fun i u a=>by
   have:=k (i+1) u (O7 a);rw [show o+(i+1)=o+1+i by omega]at this
   exact this)
  refine⟨c::e,by simp [g], ?_, ?_⟩
  ·intro j u a
   cases j with
   |zero=>simp at a; subst a; exact⟨by simpa using n,YC h (V.isCell_of_pcell p)⟩
   | succ j=>
    have:=l j u (O7 a);rw [show o+(j+1)=o+1+j by omega]; exact this
  ·refine⟨by simp [g], ?_⟩;intro i u x a f
   cases i with
   |zero=>simp at a f; subst a f; exact h
   |succ i=>exact m.2 i u x (O7 a) (O7 f)
def ZL (h:Rel gl w0 G st w) {b o sz:Nat} {es:List (List V)} (a:u7 G b o sz es) (i:Nat) (v:V) (e:es.flatten[i]? =some v):V.pcell v=true∧∃c,w.cell? ⟨b,o+i,none⟩=some c∧VR G v c:=
 h.im ((YF a).2 i v e)
def Bt (h:Rel gl w0 G st w) {tx:TypeId} {sz:Nat} {x:V} {c:Value} {new:List (List V)} (E:VR G x c) (f:W0 st (ti P tx).d sz x=some new):
  ∃s:List Value,Src P sz tx c new.length s w∧VRs G new.flatten s.toArray∧(∀v∈new.flatten,V.pcell v=true)∧(∀e∈new,e.length=sz):=by
 unfold W0 at f;split at f
 ·rename_i e p by_ Q U tok hd;split at f
  ·rename_i M; obtain⟨rfl,rfl⟩:=M;injection f with f; subst f;obtain⟨l,i,hi,_,_⟩:=zM hd
   cases E with
   | sl O ht Y=>
    rename_i b o cap;have g:=(YF O).1;obtain⟨A,F,y,H⟩:=XY (G:=G) (w:=w) (b:=b) (o:=o) (cs:=U.flatten) (fun i v k=>ZL h O i v k);refine⟨A,Src.ofSlice (P:=P) w l ⟨b,o,none⟩ U.length cap A (by rw [F,wc g]) (fun j u m=>by rw [wn]; exact(y j u m).1) ?_,H, ?_,g⟩
    ·intro u l;obtain⟨j,m⟩:=List.getElem?_of_mem l;exact(y j u m).2
    ·intro v k;obtain⟨j,m⟩:=List.getElem?_of_mem k;exact(ZL h O j v m).1
   |slnil=>exact⟨[],Src.ofNil (P:=P) w l 0,⟨rfl,O2⟩,O2,O2⟩
   |slz _ a=>exact⟨[],Src.ofSlice (P:=P) w l a 0 0 [] O2 O2 O2,⟨rfl,O2⟩,O2,O2⟩
  ·cases f
 ·rename_i hd;injection f with f; subst f;obtain⟨l,_⟩:=zM hd;cases E;exact⟨[],Src.ofNil (P:=P) w l 0,⟨rfl,O2⟩,O2,O2⟩
 ·rename_i b hd;split at f
  ·rename_i h1; subst h1;injection f with f; subst f;cases E;rename_i z;have Y:(vT z.data.toList).length=z.size:=by simp [vT]
   refine⟨byteCells z,by rw [Y]; exact Src.ofString (P:=P) w (vf hd) z, ?_, ?_,Wt _⟩
   ·rw [dG];refine⟨by simp [byteCells], ?_⟩;intro i v c k B;simp only [byteCells,List.getElem?_toArray,iV]at k B
    cases hq:z.data.toList[i]? with
    |none=>rw [hq]at k; cases k
    |some q=>rw [hq]at k B; simp at k B; subst k B; exact .int _ _
   ·rw [dG];intro v k;obtain⟨b,_,rfl⟩:=List.mem_map.1 k;rfl
  ·cases f
 ·rename_i e p by_ id n Q hd;split at f
  ·rename_i M; obtain⟨rfl,rfl⟩:=M;split at f
   ·rename_i cells L;split at f
    ·rename_i N;have g:=N;injection f with f; subst f;obtain⟨l,i,hi,_,_⟩:=zM hd;obtain⟨S,t,T⟩:=ZM p n cells g
     cases E with
     | own Z hb X hroom=>
      rename_i b cap;rcases Nat.eq_zero_or_pos cells.length with I|I
      ·have:cells= []:=List.eq_nil_of_length_eq_zero I;subst this
       have hz:p=0:=by
        rcases Nat.mul_eq_zero.1 (show n*p=0 by simpa using g.symm)with W|W
        ·omega
        ·exact W
       subst hz;exact⟨[],by rw [S]; exact Src.ofSlice (P:=P) w l ⟨b,0,none⟩ n cap [] O2 O2 O2,⟨by rw [t]; rfl,by rw [t]; simp⟩,by rw [t]; simp,T⟩
      ·obtain ⟨C,el,h2,h3,r,h4,K,h5⟩:=h.bufOf L I hb
       obtain ⟨A,F,y,H⟩:=XY (G:=G) (w:=w) (b:=b) (o:=0) (cs:=cells) (fun i v k=>by
        have m:i<C.size:=Nat.lt_of_lt_of_le (zB k) h4
        exact⟨r v (iQ k),C[i],by rw [Nat.zero_add,xR h3]; simp [m],K _ v _ k (by simp [m])⟩)
       refine ⟨A,by rw [S]; exact Src.ofSlice (P:=P) w l ⟨b,0,none⟩ n cap A (by rw [F,g]) (fun j u m=>by rw [wn]; exact(y j u m).1) (fun u l=>by
        obtain⟨j,m⟩:=List.getElem?_of_mem l
        exact(y j u m).2),by rw [t]; exact H,by rw [t]; exact r,T⟩
     | ownnil=>
      simp only [jw];exact⟨[],Src.ofNil (P:=P) w l 0,⟨rfl,O2⟩,O2,O2⟩
    ·cases f
   ·cases f
  ·cases f
 ·cases f
def ZZ (w:World) (t tx ty e:TypeId) (i:TypeInfo) (k:P.underlying t=some (.slice e)) (hi:P.info? e=some i) (b off sLen sCap:Nat) (x:Value) (n:Nat) (a:List Value)
  (g:Src P i.size tx x n a w) (hroom:sLen+n<=sCap) (C:Array Value) (el:TypeId) (j:w.heap[b]? =some (.cells C el (0,0))) (c:off+sLen*i.size+a.length<=C.size):
  (Builtin.append_ #[t,tx] ty #[.slice (some ⟨b,off,none⟩) sLen sCap,x]).run P w= .ok (.slice (some ⟨b,off,none⟩) (sLen+n) sCap)
   (w.setRow b (C.toList.take (off+sLen*i.size)++a++C.toList.drop (off+sLen*i.size+a.length)).toArray):=by
 have f:=run_storeCells_at P b (off+sLen*i.size) el a 0 C w j (O7 c) g.one;simp only [Nat.add_zero]at f;rcases g.kind with⟨l,h⟩|h<;>simp [Builtin.append_,run_underlying k,run_underlying h,sizeOf,typeInfo,hi,g.len,hroom,g.cells,Addr.add_lit,f]
def bQ {α:Type} (l m:List α) (k j:Nat) (e:k+m.length<=l.length):
  (l.take k++m++l.drop (k+m.length))[j]? =if j<k then l[j]? else if j<k+m.length then m[j-k]? else l[j]? :=by
 have a:min k l.length=k:=O0
 by_cases b:j<k
 ·rw [iI b,List.append_assoc,iU O3,List.getElem?_take,iI b]
 ·rw [iH b]
  by_cases c:j<k+m.length
  ·rw [iI c,List.append_assoc,List.getElem?_append_right O3,List.length_take,a,iU O0]
  ·rw [iH c,List.getElem?_append_right O3,iO,List.length_take,a,List.getElem?_drop]
   congr 1; omega
def u7.append {b o sz:Nat} {es new:List (List V)} (f:u7 G b o sz es) (g:u7 G b (o+es.length*sz) sz new):u7 G b o sz (es++new):=by
 intro i e a;rcases iS i es.length with c|c
 ·rw [iU c]at a;exact f i e a
 ·rw [List.getElem?_append_right c]at a;have:=g (i-es.length) e a;refine⟨this.1,fun j v h=> ?_⟩;have:=this.2 j v h
  rw [show o+i*sz+j=o+es.length*sz+(i-es.length)*sz+j by
   have:i*sz=es.length*sz+(i-es.length)*sz:=by rw [<-Nat.add_mul]; congr 1; omega
   omega]
  exact this
def Za (h:Rel gl w0 G st w) {t tx ty e:TypeId} {sz by_:Nat} (ht:(ti P t).d= .slice e sz by_) (hz:(ti P e).zok=true) (O:(ti P e).zero.cells.length=sz) (H:0<by_)
  {base:Option Addr} {sCap:Nat} {es new:List (List V)} {x:Value} {c:List Value} (hs:Src P sz tx x new.length c w) (p:VRs G new.flatten c.toArray) (hp:∀v∈new.flatten,V.pcell v=true) (W:∀e∈new,e.length=sz)
  (hbase:es= []∨∃b o,base=some ⟨b,o,none⟩∧u7 G b o sz es) (n:sCap<es.length+new.length) (I:(es.length+new.length)*by_<=140737488355328):
  ∃ b C el cap w',(Builtin.append_ #[t,tx] ty #[.slice base es.length sCap,x]).run P w= .ok (.slice (some ⟨b,0,none⟩) (es++new).length cap) w' ∧
   b=w.heap.size∧w'.heap[b]? =some (.cells C el (0,0))∧cap*sz<=C.size∧(es++new).length<=cap∧∃f:Nat->Option V,f=(fun i=>(es++new).flatten[i]?)∧Rel gl w0 (G.setImm w.heap.size f) st w'∧Ext st G (G.setImm w.heap.size f) ∧
   u7 (G.setImm w.heap.size f) w.heap.size 0 sz (es++new):=by
 obtain⟨hu,i,U,E,K⟩:=zM ht;obtain⟨i',z,l,T,S⟩:=jZ hz;rw [U]at l; cases l
 have k:∀e∈es,e.length=sz:=by
  rcases hbase with rfl|⟨b,o,_,r⟩
  ·simp
  ·exact(YF r).1
 obtain ⟨olds,s,Z,g3,g4⟩:∃olds:List Value,olds.length=es.flatten.length∧VRs G es.flatten olds.toArray∧(Builtin.firstCells i.size es.length (.slice base es.length sCap)).run P w.drew= .ok olds.toArray w.drew∧∀v∈es.flatten,V.pcell v=true:=by
  rcases hbase with rfl|⟨b,o,rfl,r⟩
  ·cases base with
   |none=>exact⟨[],rfl,⟨rfl,O2⟩,run_firstCells_none w.drew _ _ _ _,O2⟩
   |some a=>exact⟨[],rfl,⟨rfl,O2⟩,run_firstCells_some w.drew i.size 0 a 0 sCap [] O2 O2,O2⟩
  ·obtain ⟨Y,X,k2,k3⟩:=XY (G:=G) (w:=w) (b:=b) (o:=o) (cs:=es.flatten) (fun i v p=>ZL h r i v p);refine⟨Y,X,k3, ?_, ?_⟩
   ·exact run_firstCells_some w.drew i.size es.length ⟨b,o,none⟩ es.length sCap Y (by rw [X,wc k,E]) (fun j u m=>by
     rw [wn]; simpa using (k2 j u m).1)
   ·intro v p;obtain⟨j,m⟩:=List.getElem?_of_mem p;exact(ZL h r j v m).1
 have hneed:es.length+new.length<=(es.length+new.length)*by_:=Nat.le_mul_of_pos_right _ H
 have B:=run_append_grow_src (P:=P) w t tx ty e i z hu U T base es.length sCap olds g3 x new.length c (E▸hs) n O0
  (growslice_fits n (by rw [<-K]; exact I))
 have hcapge:=grownCap_ge w (es.length+new.length) sCap e;have q:c.length=new.flatten.length:=by have:=p.1; simpa using this.symm
 have Q:z.cells.size=sz:=by rw [<-V.of_cells_length,<-S]; exact O
 have M:(es++new).flatten=es.flatten++new.flatten:=O2;have L:=wc k;have N:=wc W
 obtain ⟨r,hx⟩:=(h.of_heap (w':=w.drew) rfl rfl rfl rfl).newRow (fun i=>(es++new).flatten[i]?) ((olds++c).toArray++Builtin.zeroCells z.cells (grownCap w (es.length+new.length) sCap e-(es.length+new.length))) e (0,0) (by
  intro j v g;rw [M]at g;rcases iS j es.flatten.length with m|m
  ·rw [iU m]at g;refine⟨g4 v (iQ g),olds[j], ?_,Z.2 j v _ g (by simp [s,m])⟩;rw [Array.getElem?_append_left (by simp only [List.size_toArray,iO,s]; omega)];simp [iU (show j<olds.length by omega),s,m]
  ·rw [List.getElem?_append_right m]at g
   have A:j-es.flatten.length<new.flatten.length:=by
    rcases iS (j-es.flatten.length) new.flatten.length with F|F
    ·exact F
    ·rw [iN F]at g; cases g
   refine⟨hp v (iQ g),c[j-es.flatten.length], ?_,p.2 _ v _ g (by simp [q,A])⟩;rw [Array.getElem?_append_left (by simp only [List.size_toArray,iO]; omega)];rw [List.getElem?_toArray,List.getElem?_append_right O0,s]
   simp [q,A])
 refine⟨w.heap.size,_,_,_,_,by rw [iO]; exact B,rfl,YU w.drew _, ?_,by rw [iO]; exact hcapge,_,rfl,r,hx, ?_⟩
 ·simp only [Array.size_append,List.size_toArray,iO,s,q,L,N,Builtin.zeroCells,Array.size_map,Array.size_range,Q];rw [<-Nat.add_mul,<-Nat.add_mul];exact Nat.mul_le_mul_right _ O0
 ·refine bM (by intro e y; rcases List.mem_append.1 y with y|y; exact k e y; exact W e y) ?_;intro j v p;show(if w.heap.size=w.heap.size then(es++new).flatten[0+j]? else G.imm w.heap.size (0+j))=some v;rw [iI rfl,Nat.zero_add]; exact p
def Ext.of_put {id:Nat} {cs:List V} {G G':Gh} {st:St} (h:Ext (st.put id cs) G G'):Ext st G G':=
 ⟨h.imm,fun k a=>h.var k (by simpa [St.put] using a),h.tip,fun k a=>h.room k (by simpa [St.put] using a)⟩
theorem Gn (h:Rel gl w0 G st w) {t tx ty e:TypeId} {sz by_:Nat} (ht:(ti P t).d= .slice e sz by_) (hz:(ti P e).zok=true) (H:(ti P e).zero.cells.length=sz) (s:0<by_)
  {base:Option Addr} {sCap n id:Nat} {cells:List V} {new:List (List V)} {x:Value} {a olds:List Value} (Z:Src P sz tx x new.length a w) (l:VRs G new.flatten a.toArray) (Y:∀v∈new.flatten,V.pcell v=true) (W:∀e∈new,e.length=sz)
  (S:olds.length=n*sz) (M:VRs G cells olds.toArray) (T:(Builtin.firstCells sz n (.slice base n sCap)).run P w.drew= .ok olds.toArray w.drew) (E:∀v∈cells,V.pcell v=true)
  (X:0<new.length) (g:sCap<n+new.length) (y:(n+new.length)*by_<=140737488355328):
  SOK P gl w0 G st w (Builtin.append_ #[t,tx] ty #[.slice base n sCap,x]) (.own st.vars.length (n+new.length) sz) ((st.put id []).push [.buf (cells++new.flatten)]):=by
 obtain⟨hu,i,N,q,A⟩:=zM ht
 obtain⟨i',z,f,L,K⟩:=jZ hz
 rw [N]at f; injection f with f; subst f
 have hneed:n+new.length<=(n+new.length)*by_:=Nat.le_mul_of_pos_right _ s
 have p:=run_append_grow_src (P:=P) w t tx ty e i z hu N L base n sCap olds (q▸T) x new.length a (q▸Z) g O0
  (growslice_fits g (by rw [<-A]; exact y))
 have hcapge:=grownCap_ge w (n+new.length) sCap e
 have o:a.length=new.flatten.length:=by have:=l.1; simpa using this.symm
 have m:olds.length=cells.length:=by have:=M.1; simpa using this.symm
 have I:z.cells.size=sz:=by rw [<-V.of_cells_length,<-K]; exact H
 have B:=wc W
 have k:(st.put id []).vars.length=st.vars.length:=by simp [St.put]
 have F:=((h.of_heap (w':=w.drew) rfl rfl rfl rfl).kill id).newObj [.buf (cells++new.flatten)]
  (.cells ((olds++a).toArray++Builtin.zeroCells z.cells (grownCap w (n+new.length) sCap e-(n+new.length))) e) (grownCap w (n+new.length) sCap e*sz) (.buf (by
   intro v l
   rcases List.mem_append.1 l with l|l
   ·exact E v l
   ·exact Y v l) (by
   simp only [iO,Array.size_append,List.size_toArray,m,o]; omega) (by
   intro j v c b r
   rcases iS j cells.length with C|C
   ·rw [iU C]at b
    rw [Array.getElem?_append_left (by simp only [List.size_toArray,iO]; omega),List.getElem?_toArray,iU O0]at r
    exact M.2 j v c b (O7 r)
   ·rw [List.getElem?_append_right C]at b
    have U:=zB b
    rw [Array.getElem?_append_left (by simp only [List.size_toArray,iO]; omega),List.getElem?_toArray,List.getElem?_append_right O0,m]at r
    exact l.2 _ v c b (O7 r)) (by
   simp only [Array.size_append,List.size_toArray,iO,S,o,B,Builtin.zeroCells,Array.size_map,Array.size_range,I]
   rw [<-Nat.add_mul,<-Nat.add_mul]
   exact Nat.mul_le_mul_right _ O0)) (by simp [V.scs,V.sc])
 obtain⟨O,Q⟩:=F
 rw [k]at O Q
 refine⟨_,_,_,p, ?_,by simp [V.sc,St.push,k],O,Q.of_put,(St.le_put st id []).trans (St.le_push _ _)⟩
 exact .own O0 (by simp [Gh.setVar]) hcapge (by simp [Gh.setVar])
theorem zaM (h:Rel gl w0 G st w) {t tx ty e:TypeId} {sz by_:Nat} (ht:(ti P t).d= .slice e sz by_) (A:0<sz)
  {b sCap n id:Nat} {cells:List V} {new:List (List V)} {x:Value} {a:List Value} (hs:Src P sz tx x new.length a w) (m:VRs G new.flatten a.toArray) (Z:∀v∈new.flatten,V.pcell v=true) (Y:∀e∈new,e.length=sz)
  (o:st.vars[id]? =some [.buf cells]) (s:cells.length=n*sz) (y:0<n) (E:G.var id=some b) (hroom:sCap*sz<=G.room id) (f:n+new.length<=sCap):
  SOK P gl w0 G st w (Builtin.append_ #[t,tx] ty #[.slice (some ⟨b,0,none⟩) n sCap,x]) (.own st.vars.length (n+new.length) sz) ((st.put id []).push [.buf (cells++new.flatten)]):=by
 obtain⟨hu,i,W,p,U⟩:=zM ht
 have hlpos:0<cells.length:=by rw [s]; exact Nat.mul_pos y A
 have K:=V.gone_buf hlpos
 obtain⟨C,T,h2,O,M,h4,B,h5⟩:=h.bufOf o hlpos E
 have L:a.length=new.flatten.length:=by have:=m.1; simpa using this.symm
 have F:=wc Y
 have k:0+n*sz+a.length<=C.size:=by
  rw [L,F]
  have:(n+new.length)*sz<=sCap*sz:=Nat.mul_le_mul_right _ f
  rw [Nat.add_mul]at this
  omega
 have l:=ZZ (P:=P) w t tx ty e i hu W b 0 n sCap x new.length a (p▸hs) f C T O (p▸k)
 rw [<-p]at l
 have r:∀j,(C.toList.take (0+n*sz)++a++C.toList.drop (0+n*sz+a.length))[j]? =if j<0+n*sz then C.toList[j]? else if j<0+n*sz+a.length then a[j-(0+n*sz)]? else C.toList[j]? :=
  fun j=>bQ C.toList a (0+n*sz) j (O7 k)
 have N:=h.store (cells:= [.buf (cells++new.flatten)]) o K E (qA w (C':=(C.toList.take (0+n*sz)++a++C.toList.drop (0+n*sz+a.length)).toArray) O) (.buf (by
   intro v m
   rcases List.mem_append.1 m with m|m
   ·exact M v m
   ·exact Z v m) (by
   simp only [iO,List.size_toArray,List.length_take,List.length_drop,Array.length_toList]; omega) (by
   intro j v c g q
   rw [List.getElem?_toArray,r]at q
   rcases iS j cells.length with I|I
   ·rw [iU I]at g
    rw [iI O0,Array.getElem?_toList]at q
    exact B j v c g q
   ·rw [List.getElem?_append_right I]at g
    have X:=zB g
    rw [iH O0,iI O0]at q
    refine m.2 _ v c g ?_
    rw [show j-(0+n*sz)=j-cells.length by omega]at q
    simpa using q) (by
   simp only [List.size_toArray,iO,List.length_take,List.length_drop,Array.length_toList]; omega)) (by simp [V.scs,V.sc])
 have H:=wF o
 obtain⟨Q,S⟩:=N.moveVar (id:=id) (b:=b) (cells:= [.buf (cells++new.flatten)]) (by simp [St.put,H]) (V.gone_buf O3) E
 have z:((st.put id [.buf (cells++new.flatten)]).put id [])=st.put id []:=by simp [St.put]
 have hlen':(st.put id [.buf (cells++new.flatten)]).vars.length=st.vars.length:=by simp [St.put]
 rw [z,hlen']at Q
 rw [hlen']at S
 refine⟨_,_,_,l, ?_,by simp [V.sc,St.push,St.put],Q,S.of_put,(St.le_put st id []).trans (St.le_push _ _)⟩
 exact .own O0 (by simp [Gh.setVar]) f (by simpa [Gh.setVar] using hroom)
theorem Qt (h:Rel gl w0 G st w) {t tx ty:TypeId} {x v:V} {c:Value} {st':St} (n:VR G x c) (f:Y3 P st (ti P t).d (ti P tx).d x=some (v,st')):
  SOK P gl w0 G st w (Builtin.append_ #[t,tx] ty #[.slice none 0 0,c]) v st':=by
 unfold Y3 at f
 split at f
 ·rename_i e r by_ hd
  obtain⟨hu,i,C,m,A⟩:=zM hd
  split at f
  ·rename_i N
   obtain⟨N,O,s,hsz0⟩:=N
   split at f
   ·cases f
   ·rename_i new o
    obtain⟨b,k,q,I,E⟩:=Bt h n o
    have l:b.length=new.flatten.length:=by have:=q.1; simpa using this.symm
    have B:=wc E
    split at f
    ·rename_i y
     injection f with f; injection f with L M; subst L M
     rcases Nat.eq_zero_or_pos new.length with U|U
     ·have H:new= []:=List.eq_nil_of_length_eq_zero U
      subst H
      have F:b= []:=by apply List.eq_nil_of_length_eq_zero; rw [l]; rfl
      subst F
      have a:(Builtin.append_ #[t,tx] ty #[.slice none 0 0,c]).run P w= .ok (.slice none 0 0) w:=by
       have hsrc':Src P r tx c 0 [] w:=k
       rcases hsrc'.kind with⟨e',X⟩|X<;>simp [Builtin.append_,run_underlying hu,run_underlying X,sizeOf,typeInfo,C,hsrc'.len,<-m,hsrc'.cells,storeCells]
      have n:=Gh.setNone_ext G st
      exact⟨_,w,_,a, .ownnil _ _,by simp [V.sc,St.push],h.nilVar,n,St.le_push _ _⟩
     ·
      have h1:=h.nilVar
      have hx1:=Gh.setNone_ext G st
      have Y:(st.push [V.buf []]).vars.length=st.vars.length+1:=by simp [St.push]
      have g3:=run_firstCells_none (P:=P) w.drew r 0 0 0
      obtain⟨i',z,g,T,S⟩:=jZ N
      rw [C]at g; injection g with g; subst g
      have hneed:new.length<=new.length*by_:=Nat.le_mul_of_pos_right _ s
      have a:=run_append_grow_src (P:=P) w t tx ty e i z hu C T none 0 0 [] (m▸g3) c new.length b (m▸k) O0 O0
       (growslice_fits O0 (by rw [<-A]; simpa using y))
      have hcapge:=grownCap_ge w (0+new.length) 0 e
      have Q:z.cells.size=r:=by rw [<-V.of_cells_length,<-S]; exact O
      have K:=(h.of_heap (w':=w.drew) rfl rfl rfl rfl).newObj [.buf new.flatten]
       (.cells ((([]:List Value)++b).toArray++Builtin.zeroCells z.cells (grownCap w (0+new.length) 0 e-(0+new.length))) e) (grownCap w (0+new.length) 0 e*r) (.buf I (by
        simp only [List.nil_append,Array.size_append,List.size_toArray,l]; omega) (by
        intro j v c' p W
        have hj2:=zB p
        rw [Array.getElem?_append_left (by simp only [List.nil_append,List.size_toArray]; omega)]at W
        exact q.2 j v c' p (O7 W)) (by
        simp only [List.nil_append,Array.size_append,List.size_toArray,l,B,Builtin.zeroCells,Array.size_map,Array.size_range,Q]
        rw [<-Nat.add_mul]
        exact Nat.mul_le_mul_right _ O0)) (by simp [V.scs,V.sc])
      obtain⟨Z,n⟩:=K
      rw [Nat.zero_add]at a hcapge Z n
      refine⟨_,_,_,a, ?_,by simp [V.sc,St.push],Z,n,St.le_push _ _⟩
      exact .own O0 (by simp [Gh.setVar]) hcapge (by simp [Gh.setVar])
    ·cases f
  ·cases f
 ·cases f
set_option maxHeartbeats 2000000 in
def GG (h : Rel gl w0 G st w) {t tx ty:TypeId} {s x v:V} {a c:Value} {st':St} (hs:VR G s a) (W:V.sc st s) (hx:VR G x c) (k:Y7 P st (ti P t).d (ti P tx).d s x=some (v,st')):
  SOK P gl w0 G st w (Builtin.append_ #[t,tx] ty #[a,c]) v st':=by
 unfold Y7 at k;split at k
 ·rename_i e sz by_ hd;obtain⟨hu,i,hi,hsz,hby⟩:=zM hd;split at k
  ·rename_i hz;obtain⟨hz,hzl,S⟩:=hz;split at k
   ·cases k
   ·rename_i new hnew;obtain⟨l,m,I,M,H⟩:=Bt h hx hnew;have hnl:l.length=new.flatten.length:=by have:=I.1; simpa using this.symm
    have hfn:=wc H;split at k
    ·rename_i h0;rw [h0]at m;have L:l= []:=by apply List.eq_nil_of_length_eq_zero; rw [hnl,hfn,h0]; simp
     subst L
     have:∀base sLen sCap,sLen<=sCap->(Builtin.append_ #[t,tx] ty #[.slice base sLen sCap,c]).run P w= .ok (.slice base sLen sCap) w:=by
      intro base sLen sCap hle;rcases m.kind with⟨e',hk⟩|hk<;>cases base<;>simp [Builtin.append_,run_underlying hu,run_underlying hk,sizeOf,typeInfo,hi,m.len,hle,<-hsz,m.cells,storeCells]
     cases hs with
     | nilsl=>
      cases k;obtain⟨G',g1,g2⟩:=h.nilFam;exact⟨_,w,G',this none 0 0 (iP _), .slnil _ _,⟨0,by simp [St.pushFam],iP _⟩,g1,g2,St.le_pushFam _ _⟩
     |sl hr ht hl=>cases k; exact SOK.same h (this _ _ _ hl) (.sl hr ht hl) W
     |slnil sz tok=>cases k; exact SOK.same h (this none 0 0 (iP _)) (.slnil _ _) W
     |slz sz a=>cases k; exact SOK.same h (this (some a) 0 0 (iP _)) (.slz _ _) W
     |own k1 k2 k3 k4=>cases k; exact SOK.same h (this _ _ _ k3) (.own k1 k2 k3 k4) W
     |ownnil id sz=>cases k; exact SOK.same h (this none 0 0 (iP _)) (.ownnil _ _) W
     |_=>cases k
    ·rename_i L
     have hnew_tip:∀(t' q' e' l':Nat),st.fams[t']? =some q'->G.tip t' q'=some (w.heap.size,e',l')->False:=by
      intro t' q' e' l' h1 h2;obtain⟨k2,C2,el2,k3,_⟩:=h.fam t' q' _ _ _ h1 h2;exact Nat.lt_irrefl _ (heap_lt k3)
     have hnew_var:∀(id:Nat) (cs:List V),st.vars[id]? =some cs->V.gone cs=false->G.var id≠some w.heap.size:=fun id cs hid _ hb=>Nat.lt_irrefl _ (h.var_lt (wF hid) hb)
     have fresh:∀(p:Nat) (base:Option Addr) (sCap:Nat) (es:List (List V)),(es= []∨∃b o,base=some ⟨b,o,none⟩∧u7 G b o sz es)->sCap<es.length+new.length ->
       (es.length+new.length)*by_<=140737488355328 ->
       SOK P gl w0 G st w (Builtin.append_ #[t,tx] ty #[.slice base es.length sCap,c]) (.sl sz (es++new) (.fam st.fams.length p)) (st.pushFam p):=by
      intro p base sCap es hbase hcap A;obtain⟨b,C,el,cap,w',r,rfl,Q,hsize,hcap',f,hf,hr,Z,q⟩:=Za (ty:=ty) h hd hz hzl S m I M H hbase hcap A;have T:∀e∈es++new,e.length=sz:=fun e he=>by obtain⟨j,F⟩:=List.getElem?_of_mem he; exact(q j e F).1
      have hfl:=wc T
      obtain ⟨N,Y⟩:=hr.newFam (p:=p) (b:=w.heap.size) (e:=(es++new).length*sz) (lim:=cap*sz) (.inl h.below.size) Q hsize (by
       intro j F;subst hf;show(if w.heap.size=w.heap.size then(es++new).flatten[j]? else G.imm w.heap.size j)=none
       rw [iI rfl,iN O0]) hnew_var (fun t' q' e' l' h1 h2=>hnew_tip t' q' e' l' h1 h2)
      have O:=Z.trans (.refl _) Y;refine⟨_,w',_,r, .sl (q.ext Y.imm) ⟨cap*sz,by simp [Gh.setTip],O0⟩ hcap', ?_,N,O,St.le_pushFam _ _⟩;exact⟨p,by simp [St.pushFam],iP _⟩
     split at k
     ·
      split at k
      ·rename_i hc;cases k;cases hs;have:=fresh new.length none 0 [] (.inl rfl) (by simpa using Nat.pos_of_ne_zero L) (by simpa using hc.2);simpa using this
      ·cases k
     ·rename_i g es tok;split at k
      ·rename_i hc;obtain⟨rfl,X,A⟩:=hc
       cases hs with
       | sl hr ht hl=>
        rename_i b o cap;split at k
        ·cases k;simp only [lP]at ht;exact fresh _ _ cap es (.inr ⟨b,o,rfl,hr⟩) O0 A
        ·rename_i t1 p1;split at k
         ·rename_i hlive;cases k;obtain⟨lim,htip,hlim⟩:=ht;have hq:p1<p1+new.length:=O0
          by_cases hroom:es.length+new.length<=cap
          ·obtain ⟨m2,C,el,m3,m4,m6,m7⟩:=h.fam t1 p1 _ _ _ hlive htip
           have hfit:o+es.length*g+l.length<=C.size:=by
            rw [hnl,hfn];have:(es.length+new.length)*g<=cap*g:=Nat.mul_le_mul_right _ hroom;rw [Nat.add_mul]at this;omega
           have r:=ZZ (P:=P) w t tx ty e i hu hi b o es.length cap c new.length l (hsz▸m) hroom C el m3 (hsz▸hfit);rw [<-hsz]at r
           have E:∀j,(C.toList.take (o+es.length*g)++l++C.toList.drop (o+es.length*g+l.length))[j]? =if j<o+es.length*g then C.toList[j]? else if j<o+es.length*g+l.length then l[j-(o+es.length*g)]? else C.toList[j]? :=
            fun j=>bQ C.toList l (o+es.length*g) j (O7 hfit)
           obtain ⟨N,Y⟩:=h.fill (f:=fun j=>if o+es.length*g<=j then new.flatten[j-(o+es.length*g)]? else none) (e2:=o+(es.length+new.length)*g) hlive hq htip
            (C :=(C.toList.take (o+es.length*g)++l++C.toList.drop (o+es.length*g+l.length)).toArray) (el:=el) (by
             intro C0 el0 fz0 hC0;rw [m3]at hC0; injection hC0 with hC0; injection hC0 with q1 q2 q3;subst q1 q2 q3;refine⟨rfl,rfl, ?_, ?_⟩
             ·simp only [List.size_toArray,iO,List.length_take,List.length_drop,Array.length_toList]; omega
             ·intro j F
              rw [List.getElem?_toArray,E,iI F,Array.getElem?_toList])
            (qA w m3) (by rw [Nat.add_mul]; omega) (by
             intro j v B;split at B
             ·rename_i F
              have hj2:j-(o+es.length*g)<new.flatten.length:=by
               rcases iS (j-(o+es.length*g)) new.flatten.length with K|K
               ·exact K
               ·rw [iN K]at B; cases B
              refine⟨by rw [Nat.add_mul]; omega,M v (iQ B),l[j-(o+es.length*g)], ?_,I.2 _ v _ B (by simp [hnl,hj2])⟩;rw [List.getElem?_toArray,E,iH O0,iI O0];simp [hnl,hj2]
             ·cases B)
           refine⟨_,_,_,r, ?_, ?_,N,Y,St.le_setFam st hlive (Nat.le_of_lt hq)⟩
           ·rw [show es.length+new.length=(es++new).length by simp];refine .sl ((hr.ext Y.imm).append (bM H ?_)) ⟨lim, ?_,hlim⟩ (O7 hroom)
            ·intro j v k;show(if b=b∧o+es.length*g<=o+es.length*g+j then(if o+es.length*g<=o+es.length*g+j then new.flatten[o+es.length*g+j-(o+es.length*g)]? else none)else G.imm b (o+es.length*g+j))=some v;rw [iI ⟨rfl,O0⟩,iI O0];rw [show o+es.length*g+j-(o+es.length*g)=j by omega];exact k
            ·simp [Gh.setTip]
           ·exact ⟨p1+new.length,by
             have:t1<st.fams.length:=by
              rcases iS t1 st.fams.length with K|K
              ·exact K
              ·rw [iN K]at hlive; cases hlive
             simp [St.setFam,this],iP _⟩
          ·obtain ⟨b',C,el,cap',w',r,rfl,Q,hsize,hcap',f,hf,N,Z,q⟩:=Za (ty:=ty) (sCap:=cap) h hd hz hzl S m I M H (.inr ⟨b,o,rfl,hr⟩) O0 A;have T:∀e∈es++new,e.length=g:=fun e he=>by obtain⟨j,F⟩:=List.getElem?_of_mem he; exact(q j e F).1
           have hfl:=wc T
           obtain ⟨hr3,O⟩:=N.moveFam (b:=w.heap.size) (e:=(es++new).length*g) (lim:=cap'*g) hlive hq (.inl h.below.size) Q hsize (by
            intro j F;subst hf;show(if w.heap.size=w.heap.size then(es++new).flatten[j]? else G.imm w.heap.size j)=none
            rw [iI rfl,iN O0]) hnew_var (fun t' q' e' l' h1 h2=>(hnew_tip t' q' e' l' h1 h2).elim)
           refine⟨_,w',_,r, .sl (q.ext O.imm) ⟨cap'*g,by simp [Gh.setTip],O0⟩ hcap', ?_,hr3,Z.trans (.refl _) O,St.le_setFam st hlive (Nat.le_of_lt hq)⟩
           exact ⟨p1+new.length,by
             have:t1<st.fams.length:=by
              rcases iS t1 st.fams.length with K|K
              ·exact K
              ·rw [iN K]at hlive; cases hlive
             simp [St.setFam,this],iP _⟩
         ·cases k
        ·cases k
       |slz _ a=>simp at k
       | slnil=>
        split at k
        ·cases k;have:=fresh (([]:List (List V))++new).length none 0 [] (.inl rfl) (by simpa using Nat.pos_of_ne_zero L) (O7 A);simpa using this
        ·rename_i t1 p1;split at k
         ·rename_i hlive;cases k;have hq:p1<p1+new.length:=O0;obtain⟨b',C,el,cap',w',r,rfl,Q,hsize,hcap',f,hf,N,Z,q⟩:=Za (ty:=ty) (es:= []) (base:=none) (sCap:=0) h hd hz hzl S m I M H (.inl rfl) (by simpa using Nat.pos_of_ne_zero L) (O7 A);have T:∀e∈ []++new,e.length=g:=fun e he=>by obtain⟨j,F⟩:=List.getElem?_of_mem he; exact(q j e F).1
          have hfl:=wc T
          obtain ⟨hr3,O⟩:=N.moveFam (b:=w.heap.size) (e:=([]++new).length*g) (lim:=cap'*g) hlive hq (.inl h.below.size) Q hsize (by
           intro j F;subst hf;show(if w.heap.size=w.heap.size then([]++new).flatten[j]? else G.imm w.heap.size j)=none
           rw [iI rfl,iN O0]) hnew_var (fun t' q' e' l' h1 h2=>(hnew_tip t' q' e' l' h1 h2).elim)
          refine⟨_,w',_,r, .sl (q.ext O.imm) ⟨cap'*g,by simp [Gh.setTip],O0⟩ hcap', ?_,hr3,Z.trans (.refl _) O,St.le_setFam st hlive (Nat.le_of_lt hq)⟩
          exact ⟨p1+new.length,by
            have:t1<st.fams.length:=by
             rcases iS t1 st.fams.length with K|K
             ·exact K
             ·rw [iN K]at hlive; cases hlive
            simp [St.setFam,this],iP _⟩
         ·cases k
        ·cases k
      ·cases k
     ·rename_i id n g;split at k
      ·rename_i hc;obtain⟨rfl,X,A⟩:=hc;split at k
       ·rename_i cells hcs;split at k
        ·rename_i hc2;have U:=hc2;cases k
         cases hs with
         | own hpos hb hcap hroom=>
          rename_i b cap
          by_cases hroom':n+new.length<=cap
          ·exact zaM h hd X m I M H hcs U hpos hb hroom hroom'
          ·have hlpos:0<cells.length:=by rw [U]; exact Nat.mul_pos hpos X
           obtain⟨C,el,h2,h3,hpc,h4,h4',h5⟩:=h.bufOf hcs hlpos hb;have E:∀j,j<cells.length->(C.toList.take cells.length)[j]? =C[j]? :=fun j F=>by rw [List.getElem?_take,iI F,Array.getElem?_toList]
           exact Gn (id:=id) (olds:=C.toList.take cells.length) h hd hz hzl S m I M H O3 ⟨O3,fun j v c B hc=>h4' j v c B (by
             rw [List.getElem?_toArray,E j (zB B)]at hc; exact hc)⟩
            (run_firstCells_some w.drew g n ⟨b,0,none⟩ n cap _ O3 (fun j u F=>by
             have hj':=zB F;simp only [List.length_take,Array.length_toList]at hj';rw [E j O0]at F;rw [wn,Nat.zero_add];show w.cell? _=_
             rw [xR h3]; exact F)) hpc (Nat.pos_of_ne_zero L) O0 A
         | ownnil=>
          have:cells= []:=List.eq_nil_of_length_eq_zero (O7 U);subst this;exact Gn (id:=id) (olds:= []) h hd hz hzl S m I M H O2 ⟨rfl,O2⟩ (run_firstCells_none w.drew _ _ _ _) O2 (Nat.pos_of_ne_zero L) O0 A
        ·cases k
       ·cases k
      ·cases k
     ·cases k
  ·cases k
 ·cases k
end
end Go.Abs
end
