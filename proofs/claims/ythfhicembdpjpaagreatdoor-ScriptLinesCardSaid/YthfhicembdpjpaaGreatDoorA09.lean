/- Abstract values: a part. No condition beyond each statement's own. -/
import Derived.Test.YthfhicembdpjpaaGreatDoorA08
set_option linter.all false
section
namespace Go.Abs
open Go.RowKit (Below)
section
variable {P:Program} {gl:Nat→List V} {w0:qQ} {G:Gh} {st:St} {w:World}
theorem Xc (sz:Nat):∀(n:Nat) (l:List V),l.length=n*sz→(bw sz n l).length=n∧(bw sz n l).flatten=l∧∀e∈bw sz n l,e.length=sz
 | 0,l,h=>by
  have:l= []:=List.eq_nil_of_length_eq_zero (O7 h)
  subst this; simp [bw]
 | n+1,l,h=>by
  rw [Nat.add_mul]at h
  obtain⟨h1,h2,h3⟩:=Xc sz n (l.drop sz) O3
  refine⟨by simp [bw,h1],by simp [bw,h2], ?_⟩
  intro e he
  simp only [bw,List.mem_cons]at he
  rcases he with rfl|he
  ·simp; omega
  ·exact h3 e he
theorem V.of_cells_length (z:Value):(V.of z).cells.length=z.cells.size:=by
 cases z with
 |agg cs=>simp [V.of,V.cells,Value.cells]
 |tuple cs=>simp [V.of,V.cells,Value.cells]
 |_=>simp only [V.of]; unfold V.ofCell; split<;>rfl
theorem dH {t:TypeId} (h:(ti P t).zok=true):∃i z,P.info? t=some i∧i.zero=some z∧(ti P t).zero=V.of z:=by
 simp only [ti]at h ⊢
 cases hi:P.info? t with
 |none=>rw [hi]at h; cases h
 | some i=>
  rw [hi]at h
  obtain⟨z,hz⟩:=Option.isSome_iff_exists.1 h
  exact⟨i,z,rfl,hz,by simp [hz]⟩
theorem vO {t:TypeId} {i:TypeInfo} {z:Value} (hi:P.info? t=some i) (hz:i.zero=some z) (w:World):(zeroValue t).run P w= .ok z w:=by
 simp [zeroValue,typeInfo,hi,hz]
theorem WL {b o:Nat} {cs:List V} (hc:∀(i:Nat) (v:V),cs[i]? =some v→V.pcell v=true∧∃c,w.cell? ⟨b,o+i,none⟩=some c∧VR G v c):
  ∃vs:List Value,vs.length=cs.length∧(∀j u,vs[j]? =some u→w.cell? ⟨b,o+j,none⟩=some u∧u.oneCell'=true)∧VRs G cs vs.toArray:=by
 induction cs generalizing o with
 |nil=>exact⟨[],rfl,O2,rfl,O2⟩
 | cons v r ih=>
  obtain⟨hp,c,h1,h2⟩:=hc 0 v rfl
  obtain ⟨vs,g1,g2,g3⟩:=ih (o:=o+1) (fun i u hu=>by
   have:=hc (i+1) u (O7 hu)
   rw [show o+(i+1)=o+1+i by omega]at this
   exact this)
  refine⟨c::vs,by simp [g1], ?_, ?_⟩
  ·intro j u hu
   cases j with
   |zero=>simp at hu; subst hu; exact⟨by simpa using h1,XH h2 (V.isCell_of_pcell hp)⟩
   | succ j=>
    have:=g2 j u (O7 hu)
    rw [show o+(j+1)=o+1+j by omega]; exact this
  ·refine⟨by simp [g1], ?_⟩
   intro i u x hu hx
   cases i with
   |zero=>simp at hu hx; subst hu hx; exact h2
   |succ i=>exact g3.2 i u x (O7 hu) (O7 hx)
theorem Xa (h:Rel gl w0 G st w) {b o sz:Nat} {es:List (List V)} (hr:bo G b o sz es) (i:Nat) (v:V) (hv:es.flatten[i]? =some v):V.pcell v=true∧∃c,w.cell? ⟨b,o+i,none⟩=some c∧VR G v c:=
 h.im ((XM hr).2 i v hv)
theorem VS (h:Rel gl w0 G st w) {tx:TypeId} {sz:Nat} {x:V} {c:Value} {new:List (List V)} (hx:VR G x c) (hs:Wb st (ti P tx).d sz x=some new):
  ∃news:List Value,Src P sz tx c new.length news w∧VRs G new.flatten news.toArray∧(∀v∈new.flatten,V.pcell v=true)∧(∀e∈new,e.length=sz):=by
 unfold Wb at hs
 split at hs
 ·rename_i e sz1 by_ sz' es tok hd
  split at hs
  ·rename_i hh; obtain⟨rfl,rfl⟩:=hh
   injection hs with hs; subst hs
   obtain⟨hu,i,hi,_,_⟩:=xM hd
   cases hx with
   | sl hr ht hl=>
    rename_i b o cap
    have hlen:=(XM hr).1
    obtain⟨vs,g1,g2,g3⟩:=WL (G:=G) (w:=w) (b:=b) (o:=o) (cs:=es.flatten) (fun i v hv=>Xa h hr i v hv)
    refine⟨vs,Src.ofSlice (P:=P) w hu ⟨b,o,none⟩ es.length cap vs (by rw [g1,vm hlen]) (fun j u hj=>by rw [j6]; exact(g2 j u hj).1) ?_,g3, ?_,hlen⟩
    ·intro u hu
     obtain⟨j,hj⟩:=List.getElem?_of_mem hu
     exact(g2 j u hj).2
    ·intro v hv
     obtain⟨j,hj⟩:=List.getElem?_of_mem hv
     exact(Xa h hr j v hj).1
   |slnil=>exact⟨[],Src.ofNil (P:=P) w hu 0,⟨rfl,O2⟩,O2,O2⟩
   |slz _ a=>exact⟨[],Src.ofSlice (P:=P) w hu a 0 0 [] O2 O2 O2,⟨rfl,O2⟩,O2,O2⟩
  ·cases hs
 ·rename_i hd
  injection hs with hs; subst hs
  obtain⟨hu,_⟩:=xM hd
  cases hx
  exact⟨[],Src.ofNil (P:=P) w hu 0,⟨rfl,O2⟩,O2,O2⟩
 ·rename_i b hd
  split at hs
  ·rename_i h1; subst h1
   injection hs with hs; subst hs
   cases hx
   rename_i s'
   have hl:(qB s'.data.toList).length=s'.size:=by simp [qB]
   refine⟨byteCells s',by rw [hl]; exact Src.ofString (P:=P) w (br hd) s', ?_, ?_,W1 _⟩
   ·rw [Ye]
    refine⟨by simp [byteCells], ?_⟩
    intro i v c hv hc
    simp only [byteCells,List.getElem?_toArray,List.getElem?_map]at hv hc
    cases hq:s'.data.toList[i]? with
    |none=>rw [hq]at hv; cases hv
    |some q=>rw [hq]at hv hc; simp at hv hc; subst hv hc; exact .int _ _
   ·rw [Ye]
    intro v hv
    obtain⟨b,_,rfl⟩:=List.mem_map.1 hv
    rfl
  ·cases hs
 ·rename_i e sz1 by_ id n sz' hd
  split at hs
  ·rename_i hh; obtain⟨rfl,rfl⟩:=hh
   split at hs
   ·rename_i cells hcs
    split at hs
    ·rename_i hh2
     have hlen:=hh2
     injection hs with hs; subst hs
     obtain⟨hu,i,hi,_,_⟩:=xM hd
     obtain⟨c1,c2,c3⟩:=Xc sz1 n cells hlen
     cases hx with
     | own hpos hb hcap hroom=>
      rename_i b cap
      rcases Nat.eq_zero_or_pos cells.length with h0|h0
      ·have:cells= []:=List.eq_nil_of_length_eq_zero h0
       subst this
       have hz:sz1=0:=by
        rcases Nat.mul_eq_zero.1 (show n*sz1=0 by simpa using hlen.symm)with h'|h'
        ·omega
        ·exact h'
       subst hz
       exact⟨[],by rw [c1]; exact Src.ofSlice (P:=P) w hu ⟨b,0,none⟩ n cap [] O2 O2 O2,⟨by rw [c2]; rfl,by rw [c2]; simp⟩,by rw [c2]; simp,c3⟩
      ·obtain ⟨C,el,h2,h3,hpc',h4,h4',h5⟩:=h.bufOf hcs h0 hb
       obtain ⟨vs,g1,g2,g3⟩:=WL (G:=G) (w:=w) (b:=b) (o:=0) (cs:=cells) (fun i v hv=>by
        have hj:i<C.size:=Nat.lt_of_lt_of_le (yj hv) h4
        exact⟨hpc' v (List.mem_of_getElem? hv),C[i],by rw [Nat.zero_add,cell_of_heap h3]; simp [hj],h4' _ v _ hv (by simp [hj])⟩)
       refine ⟨vs,by rw [c1]; exact Src.ofSlice (P:=P) w hu ⟨b,0,none⟩ n cap vs (by rw [g1,hlen]) (fun j u hj=>by rw [j6]; exact(g2 j u hj).1) (fun u hu=>by
        obtain⟨j,hj⟩:=List.getElem?_of_mem hu
        exact(g2 j u hj).2),by rw [c2]; exact g3,by rw [c2]; exact hpc',c3⟩
     | ownnil=>
      simp only [bw]
      exact⟨[],Src.ofNil (P:=P) w hu 0,⟨rfl,O2⟩,O2,O2⟩
     | ownz id1 sz1 b1 cap1=>
      simp only [bw]
      exact⟨[],Src.ofSlice (P:=P) w hu ⟨b1,0,none⟩ 0 cap1 [] O2 O2 O2,⟨rfl,O2⟩,O2,O2⟩
    ·cases hs
   ·cases hs
  ·cases hs
 ·cases hs
theorem Xo (w:World) (t tx ty e:TypeId) (i:TypeInfo) (ht:P.underlying t=some (.slice e)) (hi:P.info? e=some i) (b off sLen sCap:Nat) (x:Value) (n:Nat) (news:List Value)
  (hs:Src P i.size tx x n news w) (hroom:sLen+n≤sCap) (C:Array Value) (el:TypeId) (hb:w.heap[b]? =some (.cells C el (0,0))) (hfit:off+sLen*i.size+news.length≤C.size):
  (Builtin.append_ #[t,tx] ty #[.slice (some ⟨b,off,none⟩) sLen sCap,x]).run P w= .ok (.slice (some ⟨b,off,none⟩) (sLen+n) sCap)
   (w.setRow b (C.toList.take (off+sLen*i.size)++news++C.toList.drop (off+sLen*i.size+news.length)).toArray):=by
 have hst:=run_storeCells_at P b (off+sLen*i.size) el news 0 C w hb (O7 hfit) hs.one
 simp only [Nat.add_zero]at hst
 rcases hs.kind with⟨e',hk⟩|hk<;>simp [Builtin.append_,run_underlying ht,run_underlying hk,sizeOf,typeInfo,hi,hs.len,hroom,hs.cells,Addr.add_lit,hst]
theorem XP {α:Type} (l m:List α) (k j:Nat) (hk:k+m.length≤l.length):
  (l.take k++m++l.drop (k+m.length))[j]? =if j<k then l[j]? else if j<k+m.length then m[j-k]? else l[j]? :=by
 have hmin:min k l.length=k:=O0
 by_cases c1:j<k
 ·rw [if_pos c1,List.append_assoc,List.getElem?_append_left O3,List.getElem?_take,if_pos c1]
 ·rw [if_neg c1]
  by_cases c2:j<k+m.length
  ·rw [if_pos c2,List.append_assoc,List.getElem?_append_right O3,List.length_take,hmin,List.getElem?_append_left O0]
  ·rw [if_neg c2,List.getElem?_append_right O3,List.length_append,List.length_take,hmin,List.getElem?_drop]
   congr 1; omega
theorem bo.append {b o sz:Nat} {es new:List (List V)} (h1:bo G b o sz es) (h2:bo G b (o+es.length*sz) sz new):bo G b o sz (es++new):=by
 intro i e he
 rcases Nat.lt_or_ge i es.length with hi|hi
 ·rw [List.getElem?_append_left hi]at he
  exact h1 i e he
 ·rw [List.getElem?_append_right hi]at he
  have:=h2 (i-es.length) e he
  refine⟨this.1,fun j v hv=> ?_⟩
  have:=this.2 j v hv
  rw [show o+i*sz+j=o+es.length*sz+(i-es.length)*sz+j by
   have:i*sz=es.length*sz+(i-es.length)*sz:=by rw [←Nat.add_mul]; congr 1; omega
   omega]
  exact this
theorem YY (h:Rel gl w0 G st w) {t tx ty e:TypeId} {sz by_:Nat} (ht:(ti P t).d= .slice e sz by_) (hz:(ti P e).zok=true) (hzl:(ti P e).zero.cells.length=sz) (hb0:0<by_)
  {base:Option Addr} {sCap:Nat} {es new:List (List V)} {x:Value} {news:List Value} (hs:Src P sz tx x new.length news w) (hv:VRs G new.flatten news.toArray) (hp:∀v∈new.flatten,V.pcell v=true) (hl:∀e∈new,e.length=sz)
  (hbase:es= []∨∃b o,base=some ⟨b,o,none⟩∧bo G b o sz es) (hcap:sCap<es.length+new.length) (hbd:(es.length+new.length)*by_≤140737488355328):
  ∃ b C el cap w',(Builtin.append_ #[t,tx] ty #[.slice base es.length sCap,x]).run P w= .ok (.slice (some ⟨b,0,none⟩) (es++new).length cap) w' ∧
   b=w.heap.size∧w'.heap[b]? =some (.cells C el (0,0))∧cap*sz≤C.size∧(es++new).length≤cap∧∃f:Nat→Option V,f=(fun i=>(es++new).flatten[i]?)∧Rel gl w0 (G.setImm w.heap.size f) st w'∧Ext st G (G.setImm w.heap.size f) ∧
   bo (G.setImm w.heap.size f) w.heap.size 0 sz (es++new):=by
 obtain⟨hu,i,hi,hsz,hby⟩:=xM ht
 obtain⟨i',z,hi',hzz,hzv⟩:=dH hz
 rw [hi]at hi'; injection hi' with hi'; subst hi'
 have hesl:∀e∈es,e.length=sz:=by
  rcases hbase with rfl|⟨b,o,_,hr⟩
  ·simp
  ·exact(XM hr).1
 obtain ⟨olds,g1,g2,g3,g4⟩:∃olds:List Value,olds.length=es.flatten.length∧VRs G es.flatten olds.toArray∧(Builtin.firstCells i.size es.length (.slice base es.length sCap)).run P w.drew= .ok olds.toArray w.drew∧∀v∈es.flatten,V.pcell v=true:=by
  rcases hbase with rfl|⟨b,o,rfl,hr⟩
  ·cases base with
   |none=>exact⟨[],rfl,⟨rfl,O2⟩,run_firstCells_none w.drew _ _ _ _,O2⟩
   |some a=>exact⟨[],rfl,⟨rfl,O2⟩,run_firstCells_some w.drew i.size 0 a 0 sCap [] O2 O2,O2⟩
  ·obtain ⟨vs,k1,k2,k3⟩:=WL (G:=G) (w:=w) (b:=b) (o:=o) (cs:=es.flatten) (fun i v hv=>Xa h hr i v hv)
   refine⟨vs,k1,k3, ?_, ?_⟩
   ·exact run_firstCells_some w.drew i.size es.length ⟨b,o,none⟩ es.length sCap vs (by rw [k1,vm hesl,hsz]) (fun j u hj=>by
     rw [j6]; simpa using (k2 j u hj).1)
   ·intro v hv
    obtain⟨j,hj⟩:=List.getElem?_of_mem hv
    exact(Xa h hr j v hj).1
 have hneed:es.length+new.length≤(es.length+new.length)*by_:=Nat.le_mul_of_pos_right _ hb0
 have hrun:=run_append_grow_src (P:=P) w t tx ty e i z hu hi hzz base es.length sCap olds g3 x new.length news (hsz▸hs) hcap O0
  (growslice_fits hcap (by rw [←hby]; exact hbd))
 have hcapge:=grownCap_ge w (es.length+new.length) sCap e
 have hnl:news.length=new.flatten.length:=by have:=hv.1; simpa using this.symm
 have hzs:z.cells.size=sz:=by rw [←V.of_cells_length,←hzv]; exact hzl
 have hfl:(es++new).flatten=es.flatten++new.flatten:=O2
 have hfe:=vm hesl
 have hfn:=vm hl
 obtain ⟨hr,hx⟩:=(h.of_heap (w':=w.drew) rfl rfl rfl rfl).newRow (fun i=>(es++new).flatten[i]?) ((olds++news).toArray++Builtin.zeroCells z.cells (grownCap w (es.length+new.length) sCap e-(es.length+new.length))) e (0,0) (by
  intro j v hvj
  rw [hfl]at hvj
  rcases Nat.lt_or_ge j es.flatten.length with hj|hj
  ·rw [List.getElem?_append_left hj]at hvj
   refine⟨g4 v (List.mem_of_getElem? hvj),olds[j], ?_,g2.2 j v _ hvj (by simp [g1,hj])⟩
   rw [Array.getElem?_append_left (by simp only [List.size_toArray,List.length_append,g1]; omega)]
   simp [List.getElem?_append_left (show j<olds.length by omega),g1,hj]
  ·rw [List.getElem?_append_right hj]at hvj
   have hj2:j-es.flatten.length<new.flatten.length:=by
    rcases Nat.lt_or_ge (j-es.flatten.length) new.flatten.length with h'|h'
    ·exact h'
    ·rw [List.getElem?_eq_none h']at hvj; cases hvj
   refine⟨hp v (List.mem_of_getElem? hvj),news[j-es.flatten.length], ?_,hv.2 _ v _ hvj (by simp [hnl,hj2])⟩
   rw [Array.getElem?_append_left (by simp only [List.size_toArray,List.length_append]; omega)]
   rw [List.getElem?_toArray,List.getElem?_append_right O0,g1]
   simp [hnl,hj2])
 refine⟨w.heap.size,_,_,_,_,by rw [List.length_append]; exact hrun,rfl,YR w.drew _, ?_,by rw [List.length_append]; exact hcapge,_,rfl,hr,hx, ?_⟩
 ·simp only [Array.size_append,List.size_toArray,List.length_append,g1,hnl,hfe,hfn,Builtin.zeroCells,Array.size_map,Array.size_range,hzs]
  rw [←Nat.add_mul,←Nat.add_mul]
  exact Nat.mul_le_mul_right _ O0
 ·refine p7 (by intro e he; rcases List.mem_append.1 he with he|he; exact hesl e he; exact hl e he) ?_
  intro j v hv
  show(if w.heap.size=w.heap.size then(es++new).flatten[0+j]? else G.imm w.heap.size (0+j))=some v
  rw [if_pos rfl,Nat.zero_add]; exact hv
theorem Ext.of_put {id:Nat} {cs:List V} {G G':Gh} {st:St} (h:Ext (st.put id cs) G G'):Ext st G G':=
 ⟨h.imm,fun k hk=>h.var k (by simpa [St.put] using hk),h.tip,fun k hk=>h.room k (by simpa [St.put] using hk)⟩
theorem Ql (h:Rel gl w0 G st w) {t tx ty e:TypeId} {sz by_:Nat} (ht:(ti P t).d= .slice e sz by_) (hz:(ti P e).zok=true) (hzl:(ti P e).zero.cells.length=sz) (hb0:0<by_)
  {base:Option Addr} {sCap n id:Nat} {cells:List V} {new:List (List V)} {x:Value} {news olds:List Value} (hs:Src P sz tx x new.length news w) (hv:VRs G new.flatten news.toArray) (hp:∀v∈new.flatten,V.pcell v=true) (hl:∀e∈new,e.length=sz)
  (g1:olds.length=n*sz) (g2:VRs G cells olds.toArray) (g3:(Builtin.firstCells sz n (.slice base n sCap)).run P w.drew= .ok olds.toArray w.drew) (hpc:∀v∈cells,V.pcell v=true)
  (hn0:0<new.length) (hcap:sCap<n+new.length) (hbd:(n+new.length)*by_≤140737488355328):
  SOK P gl w0 G st w (Builtin.append_ #[t,tx] ty #[.slice base n sCap,x]) (.own st.vars.length (n+new.length) sz) ((st.put id []).push [.buf (cells++new.flatten)]):=by
 obtain⟨hu,i,hi,hsz,hby⟩:=xM ht
 obtain⟨i',z,hi',hzz,hzv⟩:=dH hz
 rw [hi]at hi'; injection hi' with hi'; subst hi'
 have hneed:n+new.length≤(n+new.length)*by_:=Nat.le_mul_of_pos_right _ hb0
 have hrun:=run_append_grow_src (P:=P) w t tx ty e i z hu hi hzz base n sCap olds (hsz▸g3) x new.length news (hsz▸hs) hcap O0
  (growslice_fits hcap (by rw [←hby]; exact hbd))
 have hcapge:=grownCap_ge w (n+new.length) sCap e
 have hnl:news.length=new.flatten.length:=by have:=hv.1; simpa using this.symm
 have hcl:olds.length=cells.length:=by have:=g2.1; simpa using this.symm
 have hzs:z.cells.size=sz:=by rw [←V.of_cells_length,←hzv]; exact hzl
 have hfn:=vm hl
 have hlen:(st.put id []).vars.length=st.vars.length:=by simp [St.put]
 have hr0:=((h.of_heap (w':=w.drew) rfl rfl rfl rfl).kill id).newObj [.buf (cells++new.flatten)]
  (.cells ((olds++news).toArray++Builtin.zeroCells z.cells (grownCap w (n+new.length) sCap e-(n+new.length))) e) (grownCap w (n+new.length) sCap e*sz) (.buf (by
   intro v hv
   rcases List.mem_append.1 hv with hv|hv
   ·exact hpc v hv
   ·exact hp v hv) (by
   simp only [List.length_append,Array.size_append,List.size_toArray,hcl,hnl]; omega) (by
   intro j v c hvj hc
   rcases Nat.lt_or_ge j cells.length with hj|hj
   ·rw [List.getElem?_append_left hj]at hvj
    rw [Array.getElem?_append_left (by simp only [List.size_toArray,List.length_append]; omega),List.getElem?_toArray,List.getElem?_append_left O0]at hc
    exact g2.2 j v c hvj (O7 hc)
   ·rw [List.getElem?_append_right hj]at hvj
    have hj2:=yj hvj
    rw [Array.getElem?_append_left (by simp only [List.size_toArray,List.length_append]; omega),List.getElem?_toArray,List.getElem?_append_right O0,hcl]at hc
    exact hv.2 _ v c hvj (O7 hc)) (by
   simp only [Array.size_append,List.size_toArray,List.length_append,g1,hnl,hfn,Builtin.zeroCells,Array.size_map,Array.size_range,hzs]
   rw [←Nat.add_mul,←Nat.add_mul]
   exact Nat.mul_le_mul_right _ O0)) (by simp [V.scs,V.sc])
 obtain⟨hr,hx⟩:=hr0
 rw [hlen]at hr hx
 refine⟨_,_,_,hrun, ?_,by simp [V.sc,St.push,hlen],hr,hx.of_put,(St.le_put st id []).trans (St.le_push _ _)⟩
 exact .own O0 (by simp [Gh.setVar]) hcapge (by simp [Gh.setVar])
theorem D7 (h:Rel gl w0 G st w) {t tx ty e:TypeId} {sz by_:Nat} (ht:(ti P t).d= .slice e sz by_) (hsz0:0<sz)
  {b sCap n id:Nat} {cells:List V} {new:List (List V)} {x:Value} {news:List Value} (hs:Src P sz tx x new.length news w) (hv:VRs G new.flatten news.toArray) (hp:∀v∈new.flatten,V.pcell v=true) (hl:∀e∈new,e.length=sz)
  (hcs:st.vars[id]? =some [.buf cells]) (hlen:cells.length=n*sz) (hpos:0<n) (hb:G.var id=some b) (hroom:sCap*sz≤G.room id) (hcap:n+new.length≤sCap):
  SOK P gl w0 G st w (Builtin.append_ #[t,tx] ty #[.slice (some ⟨b,0,none⟩) n sCap,x]) (.own st.vars.length (n+new.length) sz) ((st.put id []).push [.buf (cells++new.flatten)]):=by
 obtain⟨hu,i,hi,hsz,hby⟩:=xM ht
 have hlpos:0<cells.length:=by rw [hlen]; exact Nat.mul_pos hpos hsz0
 have hne:=V.gone_buf hlpos
 obtain⟨C,el,h2,h3,hpc,h4,h4',h5⟩:=h.bufOf hcs hlpos hb
 have hnl:news.length=new.flatten.length:=by have:=hv.1; simpa using this.symm
 have hfn:=vm hl
 have hfit:0+n*sz+news.length≤C.size:=by
  rw [hnl,hfn]
  have:(n+new.length)*sz≤sCap*sz:=Nat.mul_le_mul_right _ hcap
  rw [Nat.add_mul]at this
  omega
 have hrun:=Xo (P:=P) w t tx ty e i hu hi b 0 n sCap x new.length news (hsz▸hs) hcap C el h3 (hsz▸hfit)
 rw [←hsz]at hrun
 have hget:∀j,(C.toList.take (0+n*sz)++news++C.toList.drop (0+n*sz+news.length))[j]? =if j<0+n*sz then C.toList[j]? else if j<0+n*sz+news.length then news[j-(0+n*sz)]? else C.toList[j]? :=
  fun j=>XP C.toList news (0+n*sz) j (O7 hfit)
 have hst:=h.store (cells:= [.buf (cells++new.flatten)]) hcs hne hb (Yu w (C':=(C.toList.take (0+n*sz)++news++C.toList.drop (0+n*sz+news.length)).toArray) h3) (.buf (by
   intro v hv
   rcases List.mem_append.1 hv with hv|hv
   ·exact hpc v hv
   ·exact hp v hv) (by
   simp only [List.length_append,List.size_toArray,List.length_take,List.length_drop,Array.length_toList]; omega) (by
   intro j v c hvj hc
   rw [List.getElem?_toArray,hget]at hc
   rcases Nat.lt_or_ge j cells.length with hj|hj
   ·rw [List.getElem?_append_left hj]at hvj
    rw [if_pos O0,Array.getElem?_toList]at hc
    exact h4' j v c hvj hc
   ·rw [List.getElem?_append_right hj]at hvj
    have hj2:=yj hvj
    rw [if_neg O0,if_pos O0]at hc
    refine hv.2 _ v c hvj ?_
    rw [show j-(0+n*sz)=j-cells.length by omega]at hc
    simpa using hc) (by
   simp only [List.size_toArray,List.length_append,List.length_take,List.length_drop,Array.length_toList]; omega)) (by simp [V.scs,V.sc])
 have hid:=Zo hcs
 obtain⟨hr,hx⟩:=hst.moveVar (id:=id) (b:=b) (cells:= [.buf (cells++new.flatten)]) (by simp [St.put,hid]) (V.gone_buf O3) hb
 have hput:((st.put id [.buf (cells++new.flatten)]).put id [])=st.put id []:=by simp [St.put]
 have hlen':(st.put id [.buf (cells++new.flatten)]).vars.length=st.vars.length:=by simp [St.put]
 rw [hput,hlen']at hr
 rw [hlen']at hx
 refine⟨_,_,_,hrun, ?_,by simp [V.sc,St.push,St.put],hr,hx.of_put,(St.le_put st id []).trans (St.le_push _ _)⟩
 exact .own O0 (by simp [Gh.setVar]) hcap (by simpa [Gh.setVar] using hroom)
theorem U8 (h:Rel gl w0 G st w) {t tx ty:TypeId} {x v:V} {c:Value} {st':St} (hx:VR G x c) (hv:dT P st (ti P t).d (ti P tx).d x=some (v,st')):
  SOK P gl w0 G st w (Builtin.append_ #[t,tx] ty #[.slice none 0 0,c]) v st':=by
 unfold dT at hv
 split at hv
 ·rename_i e sz by_ hd
  obtain⟨hu,i,hi,hsz,hby⟩:=xM hd
  split at hv
  ·rename_i hz
   obtain⟨hz,hzl,hb0,hsz0⟩:=hz
   split at hv
   ·cases hv
   ·rename_i new hnew
    obtain⟨news,hsrc,hvn,hpn,hln⟩:=VS h hx hnew
    have hnl:news.length=new.flatten.length:=by have:=hvn.1; simpa using this.symm
    have hfn:=vm hln
    split at hv
    ·rename_i hbd
     injection hv with hv; injection hv with hv1 hv2; subst hv1 hv2
     rcases Nat.eq_zero_or_pos new.length with h0|h0
     ·have hne:new= []:=List.eq_nil_of_length_eq_zero h0
      subst hne
      have hn0:news= []:=by apply List.eq_nil_of_length_eq_zero; rw [hnl]; rfl
      subst hn0
      have hrun:(Builtin.append_ #[t,tx] ty #[.slice none 0 0,c]).run P w= .ok (.slice none 0 0) w:=by
       have hsrc':Src P sz tx c 0 [] w:=hsrc
       rcases hsrc'.kind with⟨e',hk⟩|hk<;>simp [Builtin.append_,run_underlying hu,run_underlying hk,sizeOf,typeInfo,hi,hsrc'.len,←hsz,hsrc'.cells,storeCells]
      have hx:=Gh.setNone_ext G st
      exact⟨_,w,_,hrun, .ownnil _ _,by simp [V.sc,St.push],h.nilVar,hx,St.le_push _ _⟩
     ·
      have h1:=h.nilVar
      have hx1:=Gh.setNone_ext G st
      have hlen:(st.push [V.buf []]).vars.length=st.vars.length+1:=by simp [St.push]
      have g3:=run_firstCells_none (P:=P) w.drew sz 0 0 0
      obtain⟨i',z,hi',hzz,hzv⟩:=dH hz
      rw [hi]at hi'; injection hi' with hi'; subst hi'
      have hneed:new.length≤new.length*by_:=Nat.le_mul_of_pos_right _ hb0
      have hrun:=run_append_grow_src (P:=P) w t tx ty e i z hu hi hzz none 0 0 [] (hsz▸g3) c new.length news (hsz▸hsrc) O0 O0
       (growslice_fits O0 (by rw [←hby]; simpa using hbd))
      have hcapge:=grownCap_ge w (0+new.length) 0 e
      have hzs:z.cells.size=sz:=by rw [←V.of_cells_length,←hzv]; exact hzl
      have hr0:=(h.of_heap (w':=w.drew) rfl rfl rfl rfl).newObj [.buf new.flatten]
       (.cells ((([]:List Value)++news).toArray++Builtin.zeroCells z.cells (grownCap w (0+new.length) 0 e-(0+new.length))) e) (grownCap w (0+new.length) 0 e*sz) (.buf hpn (by
        simp only [List.nil_append,Array.size_append,List.size_toArray,hnl]; omega) (by
        intro j v c' hvj hc
        have hj2:=yj hvj
        rw [Array.getElem?_append_left (by simp only [List.nil_append,List.size_toArray]; omega)]at hc
        exact hvn.2 j v c' hvj (O7 hc)) (by
        simp only [List.nil_append,Array.size_append,List.size_toArray,hnl,hfn,Builtin.zeroCells,Array.size_map,Array.size_range,hzs]
        rw [←Nat.add_mul]
        exact Nat.mul_le_mul_right _ O0)) (by simp [V.scs,V.sc])
      obtain⟨hr,hx⟩:=hr0
      rw [Nat.zero_add]at hrun hcapge hr hx
      refine⟨_,_,_,hrun, ?_,by simp [V.sc,St.push],hr,hx,St.le_push _ _⟩
      exact .own O0 (by simp [Gh.setVar]) hcapge (by simp [Gh.setVar])
    ·cases hv
  ·cases hv
 ·cases hv
set_option maxHeartbeats 2000000 in
theorem Qy (h : Rel gl w0 G st w) {t tx ty:TypeId} {s x v:V} {a c:Value} {st':St} (hs:VR G s a) (hss:V.sc st s) (hx:VR G x c) (hv:X6 P st (ti P t).d (ti P tx).d s x=some (v,st')):
  SOK P gl w0 G st w (Builtin.append_ #[t,tx] ty #[a,c]) v st':=by
 unfold X6 at hv
 split at hv
 ·rename_i e sz by_ hd
  obtain⟨hu,i,hi,hsz,hby⟩:=xM hd
  split at hv
  ·rename_i hz
   obtain⟨hz,hzl,hb0⟩:=hz
   split at hv
   ·cases hv
   ·rename_i new hnew
    obtain⟨news,hsrc,hvn,hpn,hln⟩:=VS h hx hnew
    have hnl:news.length=new.flatten.length:=by have:=hvn.1; simpa using this.symm
    have hfn:=vm hln
    split at hv
    ·rename_i h0
     rw [h0]at hsrc
     have hn0:news= []:=by apply List.eq_nil_of_length_eq_zero; rw [hnl,hfn,h0]; simp
     subst hn0
     have:∀base sLen sCap,sLen≤sCap→(Builtin.append_ #[t,tx] ty #[.slice base sLen sCap,c]).run P w= .ok (.slice base sLen sCap) w:=by
      intro base sLen sCap hle
      rcases hsrc.kind with⟨e',hk⟩|hk<;>cases base<;>simp [Builtin.append_,run_underlying hu,run_underlying hk,sizeOf,typeInfo,hi,hsrc.len,hle,←hsz,hsrc.cells,storeCells]
     cases hs with
     | nilsl=>
      simp only [Option.some.injEq,Prod.mk.injEq]at hv; obtain⟨rfl,rfl⟩:=hv
      obtain⟨G',g1,g2⟩:=h.nilFam
      exact⟨_,w,G',this none 0 0 (Nat.le_refl _), .slnil _ _,⟨0,by simp [St.pushFam],Nat.le_refl _⟩,g1,g2,St.le_pushFam _ _⟩
     |sl hr ht hl=>simp only [Option.some.injEq,Prod.mk.injEq]at hv; obtain⟨rfl,rfl⟩:=hv; exact SOK.same h (this _ _ _ hl) (.sl hr ht hl) hss
     |slnil sz tok=>simp only [Option.some.injEq,Prod.mk.injEq]at hv; obtain⟨rfl,rfl⟩:=hv; exact SOK.same h (this none 0 0 (Nat.le_refl _)) (.slnil _ _) hss
     |slz sz a=>simp only [Option.some.injEq,Prod.mk.injEq]at hv; obtain⟨rfl,rfl⟩:=hv; exact SOK.same h (this (some a) 0 0 (Nat.le_refl _)) (.slz _ _) hss
     |own k1 k2 k3 k4=>simp only [Option.some.injEq,Prod.mk.injEq]at hv; obtain⟨rfl,rfl⟩:=hv; exact SOK.same h (this _ _ _ k3) (.own k1 k2 k3 k4) hss
     |ownnil id sz=>simp only [Option.some.injEq,Prod.mk.injEq]at hv; obtain⟨rfl,rfl⟩:=hv; exact SOK.same h (this none 0 0 (Nat.le_refl _)) (.ownnil _ _) hss
     |ownz id sz b cap=>simp only [Option.some.injEq,Prod.mk.injEq]at hv; obtain⟨rfl,rfl⟩:=hv; exact SOK.same h (this _ _ _ (Nat.zero_le _)) (.ownz _ _ _ _) hss
     |_=>cases hv
    ·rename_i hn0
     have hnew_tip:∀(t' q' e' l':Nat),st.fams[t']? =some q'→G.tip t' q'=some (w.heap.size,e',l')→False:=by
      intro t' q' e' l' h1 h2
      obtain⟨k2,C2,el2,k3,_⟩:=h.fam t' q' _ _ _ h1 h2
      exact Nat.lt_irrefl _ (qA k3)
     have hnew_var:∀(id:Nat) (cs:List V),st.vars[id]? =some cs→V.gone cs=false→G.var id≠some w.heap.size:=fun id cs hid _ hb=>Nat.lt_irrefl _ (h.var_lt (Zo hid) hb)
     have fresh:∀(p:Nat) (base:Option Addr) (sCap:Nat) (es:List (List V)),(es= []∨∃b o,base=some ⟨b,o,none⟩∧bo G b o sz es)→sCap<es.length+new.length →
       (es.length+new.length)*by_≤140737488355328 →
       SOK P gl w0 G st w (Builtin.append_ #[t,tx] ty #[.slice base es.length sCap,c]) (.sl sz (es++new) (.fam st.fams.length p)) (st.pushFam p):=by
      intro p base sCap es hbase hcap hbd
      obtain⟨b,C,el,cap,w',hrun,rfl,hat,hsize,hcap',f,hf,hr,hxx,hrow⟩:=YY (ty:=ty) h hd hz hzl hb0 hsrc hvn hpn hln hbase hcap hbd
      have hel:∀e∈es++new,e.length=sz:=fun e he=>by obtain⟨j,hj⟩:=List.getElem?_of_mem he; exact(hrow j e hj).1
      have hfl:=vm hel
      obtain ⟨hr2,hx2⟩:=hr.newFam (p:=p) (b:=w.heap.size) (e:=(es++new).length*sz) (lim:=cap*sz) (.inl h.below.size) hat hsize (by
       intro j hj
       subst hf
       show(if w.heap.size=w.heap.size then(es++new).flatten[j]? else G.imm w.heap.size j)=none
       rw [if_pos rfl,List.getElem?_eq_none O0]) hnew_var (fun t' q' e' l' h1 h2=>hnew_tip t' q' e' l' h1 h2)
      have hx3:=hxx.trans (.refl _) hx2
      refine⟨_,w',_,hrun, .sl (hrow.ext hx2.imm) ⟨cap*sz,by simp [Gh.setTip],O0⟩ hcap', ?_,hr2,hx3,St.le_pushFam _ _⟩
      exact⟨p,by simp [St.pushFam],Nat.le_refl _⟩
     split at hv
     ·
      split at hv
      ·rename_i hc
       injection hv with hv; injection hv with hv1 hv2; subst hv1 hv2
       cases hs
       have:=fresh new.length none 0 [] (.inl rfl) (by simpa using Nat.pos_of_ne_zero hn0) (by simpa using hc.2)
       simpa using this
      ·cases hv
     ·rename_i sz' es tok
      split at hv
      ·rename_i hc
       obtain⟨rfl,hsz0,hbd⟩:=hc
       cases hs with
       | sl hr ht hl=>
        rename_i b o cap
        split at hv
        ·injection hv with hv; injection hv with hv1 hv2; subst hv1 hv2
         simp only [BS]at ht
         exact fresh _ _ cap es (.inr ⟨b,o,rfl,hr⟩) O0 hbd
        ·rename_i t1 p1
         split at hv
         ·rename_i hlive
          injection hv with hv; injection hv with hv1 hv2; subst hv1 hv2
          obtain⟨lim,htip,hlim⟩:=ht
          have hq:p1<p1+new.length:=O0
          by_cases hroom:es.length+new.length≤cap
          ·obtain ⟨m2,C,el,m3,m4,m6,m7⟩:=h.fam t1 p1 _ _ _ hlive htip
           have hfit:o+es.length*sz'+news.length≤C.size:=by
            rw [hnl,hfn]
            have:(es.length+new.length)*sz'≤cap*sz':=Nat.mul_le_mul_right _ hroom
            rw [Nat.add_mul]at this
            omega
           have hrun:=Xo (P:=P) w t tx ty e i hu hi b o es.length cap c new.length news (hsz▸hsrc) hroom C el m3 (hsz▸hfit)
           rw [←hsz]at hrun
           have hget:∀j,(C.toList.take (o+es.length*sz')++news++C.toList.drop (o+es.length*sz'+news.length))[j]? =if j<o+es.length*sz' then C.toList[j]? else if j<o+es.length*sz'+news.length then news[j-(o+es.length*sz')]? else C.toList[j]? :=
            fun j=>XP C.toList news (o+es.length*sz') j (O7 hfit)
           obtain ⟨hr2,hx2⟩:=h.fill (f:=fun j=>if o+es.length*sz'≤j then new.flatten[j-(o+es.length*sz')]? else none) (e2:=o+(es.length+new.length)*sz') hlive hq htip
            (C :=(C.toList.take (o+es.length*sz')++news++C.toList.drop (o+es.length*sz'+news.length)).toArray) (el:=el) (by
             intro C0 el0 fz0 hC0
             rw [m3]at hC0; injection hC0 with hC0; injection hC0 with q1 q2 q3
             subst q1 q2 q3
             refine⟨rfl,rfl, ?_, ?_⟩
             ·simp only [List.size_toArray,List.length_append,List.length_take,List.length_drop,Array.length_toList]; omega
             ·intro j hj
              rw [List.getElem?_toArray,hget,if_pos hj,Array.getElem?_toList])
            (Yu w m3) (by rw [Nat.add_mul]; omega) (by
             intro j v hvj
             split at hvj
             ·rename_i hj
              have hj2:j-(o+es.length*sz')<new.flatten.length:=by
               rcases Nat.lt_or_ge (j-(o+es.length*sz')) new.flatten.length with h'|h'
               ·exact h'
               ·rw [List.getElem?_eq_none h']at hvj; cases hvj
              refine⟨by rw [Nat.add_mul]; omega,hpn v (List.mem_of_getElem? hvj),news[j-(o+es.length*sz')], ?_,hvn.2 _ v _ hvj (by simp [hnl,hj2])⟩
              rw [List.getElem?_toArray,hget,if_neg O0,if_pos O0]
              simp [hnl,hj2]
             ·cases hvj)
           refine⟨_,_,_,hrun, ?_, ?_,hr2,hx2,St.le_setFam st hlive (Nat.le_of_lt hq)⟩
           ·rw [show es.length+new.length=(es++new).length by simp]
            refine .sl ((hr.ext hx2.imm).append (p7 hln ?_)) ⟨lim, ?_,hlim⟩ (O7 hroom)
            ·intro j v hv
             show(if b=b∧o+es.length*sz'≤o+es.length*sz'+j then(if o+es.length*sz'≤o+es.length*sz'+j then new.flatten[o+es.length*sz'+j-(o+es.length*sz')]? else none)else G.imm b (o+es.length*sz'+j))=some v
             rw [if_pos ⟨rfl,O0⟩,if_pos O0]
             rw [show o+es.length*sz'+j-(o+es.length*sz')=j by omega]
             exact hv
            ·simp [Gh.setTip]
           ·exact ⟨p1+new.length,by
             have:t1<st.fams.length:=by
              rcases Nat.lt_or_ge t1 st.fams.length with h'|h'
              ·exact h'
              ·rw [List.getElem?_eq_none h']at hlive; cases hlive
             simp [St.setFam,this],Nat.le_refl _⟩
          ·obtain ⟨b',C,el,cap',w',hrun,rfl,hat,hsize,hcap',f,hf,hr2,hxx,hrow⟩:=YY (ty:=ty) (sCap:=cap) h hd hz hzl hb0 hsrc hvn hpn hln (.inr ⟨b,o,rfl,hr⟩) O0 hbd
           have hel:∀e∈es++new,e.length=sz':=fun e he=>by obtain⟨j,hj⟩:=List.getElem?_of_mem he; exact(hrow j e hj).1
           have hfl:=vm hel
           obtain ⟨hr3,hx3⟩:=hr2.moveFam (b:=w.heap.size) (e:=(es++new).length*sz') (lim:=cap'*sz') hlive hq (.inl h.below.size) hat hsize (by
            intro j hj
            subst hf
            show(if w.heap.size=w.heap.size then(es++new).flatten[j]? else G.imm w.heap.size j)=none
            rw [if_pos rfl,List.getElem?_eq_none O0]) hnew_var (fun t' q' e' l' h1 h2=>(hnew_tip t' q' e' l' h1 h2).elim)
           refine⟨_,w',_,hrun, .sl (hrow.ext hx3.imm) ⟨cap'*sz',by simp [Gh.setTip],O0⟩ hcap', ?_,hr3,hxx.trans (.refl _) hx3,St.le_setFam st hlive (Nat.le_of_lt hq)⟩
           exact ⟨p1+new.length,by
             have:t1<st.fams.length:=by
              rcases Nat.lt_or_ge t1 st.fams.length with h'|h'
              ·exact h'
              ·rw [List.getElem?_eq_none h']at hlive; cases hlive
             simp [St.setFam,this],Nat.le_refl _⟩
         ·cases hv
        ·cases hv
       |slz _ a=>simp at hv
       | slnil=>
        split at hv
        ·injection hv with hv; injection hv with hv1 hv2; subst hv1 hv2
         have:=fresh (([]:List (List V))++new).length none 0 [] (.inl rfl) (by simpa using Nat.pos_of_ne_zero hn0) (O7 hbd)
         simpa using this
        ·rename_i t1 p1
         split at hv
         ·rename_i hlive
          injection hv with hv; injection hv with hv1 hv2; subst hv1 hv2
          have hq:p1<p1+new.length:=O0
          obtain⟨b',C,el,cap',w',hrun,rfl,hat,hsize,hcap',f,hf,hr2,hxx,hrow⟩:=YY (ty:=ty) (es:= []) (base:=none) (sCap:=0) h hd hz hzl hb0 hsrc hvn hpn hln (.inl rfl) (by simpa using Nat.pos_of_ne_zero hn0) (O7 hbd)
          have hel:∀e∈ []++new,e.length=sz':=fun e he=>by obtain⟨j,hj⟩:=List.getElem?_of_mem he; exact(hrow j e hj).1
          have hfl:=vm hel
          obtain ⟨hr3,hx3⟩:=hr2.moveFam (b:=w.heap.size) (e:=([]++new).length*sz') (lim:=cap'*sz') hlive hq (.inl h.below.size) hat hsize (by
           intro j hj
           subst hf
           show(if w.heap.size=w.heap.size then([]++new).flatten[j]? else G.imm w.heap.size j)=none
           rw [if_pos rfl,List.getElem?_eq_none O0]) hnew_var (fun t' q' e' l' h1 h2=>(hnew_tip t' q' e' l' h1 h2).elim)
          refine⟨_,w',_,hrun, .sl (hrow.ext hx3.imm) ⟨cap'*sz',by simp [Gh.setTip],O0⟩ hcap', ?_,hr3,hxx.trans (.refl _) hx3,St.le_setFam st hlive (Nat.le_of_lt hq)⟩
          exact ⟨p1+new.length,by
            have:t1<st.fams.length:=by
             rcases Nat.lt_or_ge t1 st.fams.length with h'|h'
             ·exact h'
             ·rw [List.getElem?_eq_none h']at hlive; cases hlive
            simp [St.setFam,this],Nat.le_refl _⟩
         ·cases hv
        ·cases hv
      ·cases hv
     ·rename_i id n sz'
      split at hv
      ·rename_i hc
       obtain⟨rfl,hsz0,hnp,hbd⟩:=hc
       split at hv
       ·rename_i cells hcs
        split at hv
        ·rename_i hc2
         have hlen:=hc2
         injection hv with hv; injection hv with hv1 hv2; subst hv1 hv2
         cases hs with
         | own hpos hb hcap hroom=>
          rename_i b cap
          by_cases hroom':n+new.length≤cap
          ·exact D7 h hd hsz0 hsrc hvn hpn hln hcs hlen hpos hb hroom hroom'
          ·have hlpos:0<cells.length:=by rw [hlen]; exact Nat.mul_pos hpos hsz0
           obtain⟨C,el,h2,h3,hpc,h4,h4',h5⟩:=h.bufOf hcs hlpos hb
           have hget:∀j,j<cells.length→(C.toList.take cells.length)[j]? =C[j]? :=fun j hj=>by rw [List.getElem?_take,if_pos hj,Array.getElem?_toList]
           exact Ql (id:=id) (olds:=C.toList.take cells.length) h hd hz hzl hb0 hsrc hvn hpn hln O3 ⟨O3,fun j v c hvj hc=>h4' j v c hvj (by
             rw [List.getElem?_toArray,hget j (yj hvj)]at hc; exact hc)⟩
            (run_firstCells_some w.drew sz' n ⟨b,0,none⟩ n cap _ O3 (fun j u hj=>by
             have hj':=yj hj
             simp only [List.length_take,Array.length_toList]at hj'
             rw [hget j O0]at hj
             rw [j6,Nat.zero_add]
             show w.cell? _=_
             rw [cell_of_heap h3]; exact hj)) hpc (Nat.pos_of_ne_zero hn0) O0 hbd
         |ownnil=>exact absurd hnp (Nat.lt_irrefl _)
         |ownz=>exact absurd hnp (Nat.lt_irrefl _)
        ·cases hv
       ·cases hv
      ·cases hv
     ·cases hv
  ·cases hv
 ·cases hv
end
end Go.Abs
end
