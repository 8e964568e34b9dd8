/- Abstract values. No condition. -/
import Derived.Test.YtkabooclnoiclaaGreatDoorA09
set_option linter.all false
section
namespace Go.Abs
open Go.RowKit (Below)
section
variable {P:Program} {gl:Nat->List V} {w0:xi} {G:Gh} {st:St} {w:World}
def XU (off:Nat):∀(a:List Value) (k:Nat) (cs:Array Value),off+k+a.length<=cs.size ->
  ∀ j:Nat,((a.zipIdx k).foldl (fun cs (c,i)=>cs.setIfInBounds (off+i) c) cs)[j]? =(if off+k<=j∧j<off+k+a.length then a[j-(off+k)]? else cs[j]?) ∧
   ((a.zipIdx k).foldl (fun cs (c,i)=>cs.setIfInBounds (off+i) c) cs).size=cs.size
 | [],k,cs,h,j=>by
  simp only [List.zipIdx_nil,List.foldl_nil,List.length_nil,Nat.add_zero];rw [iH O0]; simp
 | v ::a,k,cs,h,j=>by
  simp only [List.zipIdx_cons,List.foldl_cons];simp only [List.length_cons]at h;obtain⟨f,g⟩:=XU off a (k+1) (cs.setIfInBounds (off+k) v) O3 j;refine⟨?_,by rw [g]; simp⟩;rw [f]
  by_cases b:off+(k+1)<=j∧j<off+(k+1)+a.length
  ·rw [iI b,iI (by simp only [List.length_cons]; omega)];rw [show j-(off+k)=(j-(off+(k+1)))+1 by omega,List.getElem?_cons_succ]
  ·rw [iH b]
   by_cases e:j=off+k
   ·subst e;rw [iI (by simp only [List.length_cons]; omega)];simp only [Nat.sub_self,List.getElem?_cons_zero];rw [Array.getElem?_setIfInBounds,iI rfl,iI O0]
   ·rw [iH (by simp only [List.length_cons]; omega),Array.getElem?_setIfInBounds,iH (Ne.symm e)]
def gT (place:Nat->Option (Nat×Nat)):∀(b:List (Nat×V)) (cparts:List (Nat×Value)) (cells r:List V) (C:Array Value),VRs G cells C->b.length=cparts.length ->
  (∀(j:Nat) i v n x,b[j]? =some (i,v)->cparts[j]? =some (n,x)->i=n∧VR G v x)->q9 place cells b=some r ->
  ∃R,Instr.fill place C cparts=some R∧VRs G r R
 | [],cparts,cells,r,C,g,q,s,h=>by
  have:cparts= []:=List.eq_nil_of_length_eq_zero q.symm;subst this;simp only [q9]at h; cases h;exact⟨C,rfl,g⟩
 |(i,v)::k,[],cells,r,C,g,q,s,h=>by simp at q
 | (i, v)::k,(n,x)::crest,cells,r,C,g,q,s,h=>by
  obtain⟨rfl,B⟩:=s 0 i v n x rfl rfl;simp only [q9]at h;split at h
  ·cases h
  ·rename_i a size z;split at h
   ·rename_i M;obtain⟨p,I,K⟩:=M;obtain⟨⟨e,E⟩,_⟩:=Xh B K;have l:=XU a x.cells.toList 0 C (by simp [<-e,<-g.1]; omega);simp only [Nat.add_zero]at l;have A:=(l 0).2
    have hfold:x.cells.zipIdx.foldl (fun o (c,j)=>o.setIfInBounds (a+j) c) C=(x.cells.toList.zipIdx 0).foldl (fun o (c,i)=>o.setIfInBounds (a+i) c) C:=by
     rw [<-Array.foldl_toList,Array.toList_zipIdx]
    obtain ⟨R,L,t⟩:=gT place k crest (cells.take a++v.cells++cells.drop (a+size)) r ((x.cells.toList.zipIdx 0).foldl (fun o (c,i)=>o.setIfInBounds (a+i) c) C) (by
     refine⟨?_, ?_⟩
     ·rw [A,<-g.1]; simp [p]; omega
     ·intro j u y f m;rw [(l j).1]at m;rw [<-p]at f;rw [bQ cells v.cells a j O0]at f
      by_cases F:j<a
      ·rw [iI F]at f;rw [iH O0]at m;exact g.2 j u y f m
      ·rw [iH F]at f
       by_cases H:j<a+v.cells.length
       ·rw [iI H]at f;rw [iI (by simp [<-e]; omega)]at m;exact E _ u y f (O7 m)
       ·rw [iH H]at f;rw [iH (by simp [<-e]; omega)]at m
        exact g.2 j u y f m) (O7 q) (fun j i v n x p I=>s (j+1) i v n x (O7 p) (O7 I)) h
    refine⟨R, ?_,t⟩;simp only [Instr.fill,z];rw [iH]
    ·rw [hfold]; exact L
    ·simp only [Bool.or_eq_true,bne_iff_ne,ne_eq,iJ,not_or];refine⟨by simp [<-e,p], ?_⟩;rw [<-e,<-g.1];show ¬(a+v.cells.length>cells.length);omega
   ·cases h
def VRs.of_zero {z:Value}:VRs G (V.of z).cells z.cells:=by
 cases z with
 |agg f=>exact VRs.ofCells G f
 | tuple f=>
  refine⟨rfl, ?_⟩;intro i v c a e
  cases i with
  |zero=>simp [V.of,V.cells,Value.cells]at a e; subst a e; exact VR.of G (.tuple f)
  |succ i=>simp [V.of,V.cells]at a
 | _=>
  refine⟨by rw [V.of_cells_length], ?_⟩;intro i v c a e;simp only [V.of]at a;have b:∀q:Value,(V.ofCell q).cells= [V.ofCell q]:=by intro q; unfold V.ofCell; split<;>rfl
  rw [b]at a
  cases i with
  |zero=>simp [Value.cells]at a e; subst a e; exact VR.ofCell G _
  |succ i=>simp at a
def VQ (place:Nat->Option (Nat×Nat)):∀(a:List (Nat×V)) (cells r:List V),V.scs st cells->(∀p∈a,V.sc st p.2)->q9 place cells a=some r->V.scs st r
 | [],cells,r,e,f,h=>by simp only [q9]at h; cases h; exact e
 | (i,v)::c,cells,r,e,f,h=>by
  simp only [q9]at h;split at h
  ·cases h
  ·split at h
   ·refine VQ place c _ r ?_ (fun p g=>f p (List.mem_cons_of_mem _ g)) h;have j:=(V.scs_iff st _).1 e;have k:=(V.scs_iff st _).1 (Xp (f (i,v) O2));rw [V.scs_iff];intro u b;rcases List.mem_append.1 b with b|b
    ·rcases List.mem_append.1 b with b|b
     ·exact j u (List.mem_of_mem_take b)
     ·exact k u b
    ·exact j u (List.mem_of_mem_drop b)
   ·cases h
def Yp:∀(l:List Field),(∀f∈l,(P.info? f.type).isSome=true)->(l.mapM (m:=Sem) fun f=>do pure (f.offset,<-sizeOf f.type)).run P w= .ok (l.map fun f=>(f.offset,P.cellsOf f.type)) w
 | [],_=>rfl
 | f::r,h=>by
  obtain⟨i,a⟩:=Option.isSome_iff_exists.1 (h f O2);have c:=Yp r (fun f b=>h f (List.mem_cons_of_mem _ b));simp only [List.mapM_cons,iB,zF a,iA,iC,c,List.map_cons];simp [Program.cellsOf,a]
def Df {t:TypeId} {a:List (Nat×V)} {cparts:Array (Nat×Value)} {v:V} (L:a.length=cparts.size)
  (M:∀(j:Nat) i v k x,a[j]? =some (i,v)->cparts[j]? =some (k,x)->i=k∧VR G v x) (N:∀p∈a,V.sc st p.2) (h:VY (ti P t) a=some v):
  ∃c,(Instr.build t cparts).run P w= .ok c w∧VR G v c∧V.sc st v:=by
 unfold VY at h;split at h
 ·rename_i Q;obtain⟨i,z,K,r,q⟩:=jZ Q;have o:VRs G (ti P t).zero.cells z.cells:=by rw [q]; exact VRs.of_zero
  have g:V.scs st (ti P t).zero.cells:=by rw [q]; exact Xp (V.sc_of_pure st _ (V.pure_of z))
  split at h
  ·rename_i s hd;split at h
   ·rename_i cells l;cases h;obtain⟨fields,I,C,F⟩:=bh hd;obtain⟨R,B,b⟩:=gT (G:=G) _ a cparts.toList _ _ _ o (O7 L) (fun j i v k x y A=>M j i v k x y (O7 A)) l;refine⟨.agg R, ?_, .agg b.1 b.2,by simp only [V.sc]; exact VQ _ _ _ _ g N l⟩
    have O:(fields.mapM (m:=Sem) fun f=>do pure (f.offset,<-sizeOf f.type)).run P w= .ok s.toArray w:=by
     rw [Array.mapM_eq_mapM_toList];simp only [Sem.run_map,Yp fields.toList F,iA,C]
    have hplace:((fun i=>s.toArray[i]?):Nat->Option (Nat×Nat))=fun i=>s[i]? :=by funext i; simp
    simp only [Instr.build,iB,zU K r,iA,run_underlying I,O,hplace,B,iC]
   ·cases h
  ·rename_i n S hd;split at h
   ·rename_i cells l;cases h;obtain⟨e,ie,I,E,H⟩:=pN hd;obtain⟨R,B,b⟩:=gT (G:=G) _ a cparts.toList _ _ _ o (O7 L) (fun j i v k x y A=>M j i v k x y (O7 A)) l;refine⟨.agg R, ?_, .agg b.1 b.2,by simp only [V.sc]; exact VQ _ _ _ _ g N l⟩;simp only [Instr.build,iB,zU K r,iA,run_underlying I,zF E,<-H,B,iC]
   ·cases h
  ·cases h
 ·cases h
def XA (place:Nat->Option (Nat×Nat)):∀(a:List (Nat×V)) (cells r:List V),q9 place cells a=some r->r.length=cells.length
 | [],cells,r,h=>by simp only [q9]at h; cases h; rfl
 | (i,v)::b,cells,r,h=>by
  simp only [q9]at h;split at h
  ·cases h
  ·split at h
   ·rename_i c;have:=XA place b _ r h;rw [this]; simp; omega
   ·cases h
def pO {z:Value} {zs:List V} (h:VRs G zs z.cells) (n:Nat):VRs G (wC n zs) ((Array.range (n*zs.length)).map (z.cells[· % z.cells.size]!)):=by
 have b:∀n,(wC n zs).length=n*zs.length:=by
  intro n; simp [wC]
 have e:∀(n j:Nat),j<n*zs.length->(wC n zs)[j]? =zs[j%zs.length]? :=by
  intro n
  induction n with
  |zero=>intro j o; omega
  | succ n r=>
   intro j o;have q:wC (n+1) zs=zs++wC n zs:=by simp [wC,List.replicate_succ]
   rw [q];rcases iS j zs.length with a|a
   ·rw [iU a,Nat.mod_eq_of_lt a]
   ·rw [List.getElem?_append_right a,r _ (by rw [Nat.add_mul]at o; omega),Nat.mod_eq_sub_mod a]
 refine⟨by simp [b], ?_⟩;intro i v c k g
 have m:i<n*zs.length:=by
  rcases iS i (n*zs.length)with a|a
  ·exact a
  ·rw [iN (by rw [b]; exact a)]at k; cases k
 rw [e n i m]at k;simp only [Array.getElem?_map,Array.getElem?_range,m,if_true,Option.map_some]at g;cases g
 have f:0<zs.length:=by
  rcases Nat.eq_zero_or_pos zs.length with l|l
  ·rw [l]at m; omega
  ·exact l
 have p:i%zs.length<zs.length:=Nat.mod_lt _ f;refine h.2 (i%zs.length) v _ k ?_;rw [<-h.1];have:i%zs.length<z.cells.size:=by rw [<-h.1]; exact p
 rw [getElem!_pos z.cells (i%zs.length) this];simp [this]
def X8 (h:Rel gl w0 G st w) {t:TypeId} {len:Nat} {a:List (Nat×V)} {cparts:Array (Nat×Value)} {v:V} (W:a.length=cparts.size)
  (X:∀(j:Nat) i v r x,a[j]? =some (i,v)->cparts[j]? =some (r,x)->i=r∧VR G v x) (b:j5 P (ti P t).d len a=some v):
  SOK P gl w0 G st w (Instr.buildSlice t len cparts) v st:=by
 unfold j5 at b;split at b
 ·rename_i e l by_ hd;split at b
  ·rename_i T;obtain⟨K,hz,k,M⟩:=T;split at b
   ·rename_i cells L;split at b
    ·rename_i C;cases b;obtain⟨Z,i,A,E,_⟩:=zM hd;obtain⟨r,z,c,H,q⟩:=jZ hz;rw [A]at c; cases c;have F:VRs G (ti P e).zero.cells z.cells:=by rw [q]; exact VRs.of_zero
     have hzs:z.cells.size=l:=by rw [<-V.of_cells_length,<-q]; exact k
     have f:=pO F len;rw [k]at f;obtain⟨R,s,n⟩:=gT (G:=G) _ a cparts.toList _ _ _ f (O7 W) (fun j i v r x Q S=>X j i v r x Q (O7 S)) L;have y:cells.length=len*l:=by rw [XA _ _ _ _ L]; simp [wC,k]
     obtain⟨I,N,O⟩:=ZM l len cells y
     obtain ⟨Y,hx⟩:=h.newRow (fun j=>cells[j]?) R e (0,0) (by
      intro j v g;refine⟨?_, ?_⟩
      ·exact List.all_eq_true.1 C v (iQ g)
      ·have B:j<cells.length:=by
        rcases iS j cells.length with m|m
        ·exact m
        ·rw [iN m]at g; cases g
       have o:j<R.size:=by rw [<-n.1]; exact B
       exact⟨R[j],by simp [o],n.2 j v _ g (by simp [o])⟩)
     refine⟨.slice (some ⟨w.heap.size,0,none⟩) len len,w.alloc (.cells R e),_, ?_, ?_,by simp [V.sc],Y,hx, .refl _⟩
     ·simp only [Instr.buildSlice,iB,run_underlying Z,iA,zF A,<-E];rw [iH O3]
      by_cases p:len*l=0
      ·have hlen0:len=0:=by
        rcases Nat.mul_eq_zero.1 p with m|m
        ·exact m
        ·omega
       subst hlen0;simp only [Nat.zero_mul,if_true,iB,iC,iA]at s ⊢;have U:((Array.range 0).map ((#[]:Array Value)[· % (#[]:Array Value).size]!))=(Array.range 0).map (z.cells[· % z.cells.size]!):=O2;rw [U,s];rfl
      ·rw [iH p];simp only [iB,zU A H,iA,iC,s];rfl
     ·have:VR (G.setImm w.heap.size fun j=>cells[j]?) (.sl l (jw l len cells) .exact) (.slice (some ⟨w.heap.size,0,none⟩) (jw l len cells).length len):=by
       refine .sl (bM O ?_) (by simp [lP,I]) O0;intro j v g;rw [N]at g;show(if w.heap.size=w.heap.size then cells[0+j]? else G.imm w.heap.size (0+j))=some v;rw [iI rfl,Nat.zero_add]; exact g
      rw [I]at this;exact this
    ·cases b
   ·cases b
  ·cases b
 ·cases b
def W5 (h:Rel gl w0 G st w) {t:TypeId} {len:Nat} {a:List (Nat×V)} {cparts:Array (Nat×Value)} {v:V} (n:a.length=cparts.size)
  (o:∀(j:Nat) i v b x,a[j]? =some (i,v)->cparts[j]? =some (b,x)->i=b∧VR G v x) (q:gf P (ti P t).d len a=some v):
  SOK P gl w0 G st w (Instr.buildSlice t len cparts) v st:=by
 have f:j5 P (ti P t).d len (a.map fun p=>(p.1,V.pur p.2))=some v:=q;refine X8 h (O7 n) ?_ f;intro j i v b x g m;rw [iV]at g;obtain⟨p,c,e⟩:=iR.1 g;injection e with k l; subst k l;obtain⟨r,s⟩:=o j p.1 p.2 b x c m;exact⟨r,s.pur⟩
def Zk (c:Array Value) (off n j:Nat) (a:j<n) (h:off+n<=c.size):(c.extract off (off+n))[j]? =c[off+j]? :=by
 rw [Array.getElem?_extract];have:min (off+n) c.size=off+n:=O0;rw [this,iI O0]
def Dt (h:Rel gl w0 G st w) {s:TypeId} {x v:V} {c:Value} {f:Nat} (hx:VR G x c) (hs:V.sc st x) (a:Qu (ti P s) (ti P) x f=some v):
  SOK P gl w0 G st w (Instr.field s c f) v st:=by
 unfold Qu at a;split at a
 ·rename_i fs X hd;split at a
  ·rename_i e sz ft k q;split at a
   ·rename_i Y;obtain⟨M,B,T⟩:=Y;obtain⟨fields,O,H,_⟩:=bh hd;have z:(ti P s).fts=fields.toList.map (·.type):=by simp only [ti,O]
    rw [z,iV]at q;obtain⟨fl,t,I⟩:=iR.1 q;subst I;rw [H,iV,t]at k;simp only [Option.map_some,iL,iW]at k;obtain⟨L,_⟩:=k;obtain⟨i,d,Z,p,l,N⟩:=pB M;have o:(ti P fl.type).d.agg=gN d:=by rw [N]at B ⊢; exact gX B
    cases hx with
    | @agg _ m S U=>
     have C:∀u∈X,V.sc st u:=by simpa [V.sc,V.scs_iff] using hs
     have r:fields[f]? =some fl:=by rw [<-Array.getElem?_toList]; exact t
     simp only [rd]at a
     by_cases F:(ti P fl.type).d.agg=true
     ·simp only [F,if_true]at a;split at a
      ·rename_i g;cases a;have hlen2:=g;simp only [List.length_take,List.length_drop]at g
       ·have K:fl.offset+i.size<=m.size:=by rw [<-S,L]; omega
        refine SOK.same h (c:= .agg (m.extract fl.offset (fl.offset+i.size))) ?_ ?_ ?_
        ·simp only [Instr.field,iB,run_underlying O,iA,r,part,asAgg,iC,uq p,<-o,F,if_true,zF Z]
        ·refine .agg (by rw [hlen2,l]; simp; omega) ?_;intro j u y b W
         have Q:j<i.size:=by
          rcases iS j i.size with E|E
          ·exact E
          ·rw [iN (by rw [hlen2,l]; exact E)]at b; cases b
         rw [Zk _ _ _ _ Q K]at W;rw [l,List.getElem?_take,iI Q,List.getElem?_drop]at b;exact U _ u y (by rw [L]; exact b) W
        ·simp only [V.sc,V.scs_iff];intro u b;exact C u (List.mem_of_mem_drop (List.mem_of_mem_take b))
      ·cases a
     ·have n:(ti P fl.type).d.agg=false:=by simpa using F
      simp only [n,if_false,iT]at a;have A:e<m.size:=by rw [<-S]; exact zB a
      refine SOK.same h (c:=m[e]) ?_ (U e v _ a (by simp [A])) (C v (iQ a));simp only [Instr.field,iB,run_underlying O,iA,r,part,asAgg,iC,uq p,<-o,n,L,iT,if_false];have:m[e]? =some m[e]:=by simp [A]
      rw [this]; rfl
   ·cases a
  ·cases a
 ·cases a
def XF (h:Rel gl w0 G st w) {t:TypeId} {len:Nat} {a:List (Nat×V)} {cparts:Array (Nat×Value)} {v:V} {st':St} (Z:a.length=cparts.size)
  (hp:∀(j:Nat) i v f x,a[j]? =some (i,v)->cparts[j]? =some (f,x)->i=f∧VR G v x) (b:ph P st (ti P t).d len a=some (v,st')):
  SOK P gl w0 G st w (Instr.buildSlice t len cparts) v st':=by
 unfold ph at b;split at b
 ·rename_i e q by_ hd;split at b
  ·rename_i Y;obtain⟨hb,hz,m,hs0,hlen0⟩:=Y;split at b
   ·rename_i cells O;split at b
    ·rename_i F;cases b;obtain⟨hu,i,y,H,_⟩:=zM hd;obtain⟨f,z,g,N,n⟩:=jZ hz;rw [y]at g; cases g;have M:VRs G (ti P e).zero.cells z.cells:=by rw [n]; exact VRs.of_zero
     have hzs:z.cells.size=q:=by rw [<-V.of_cells_length,<-n]; exact m
     have k:=pO M len;rw [m]at k
     have B:∀(j:Nat) i v f x,(a.map fun p=>(p.1,V.pur p.2))[j]? =some (i,v)->cparts[j]? =some (f,x)->i=f∧VR G v x:=by
      intro j i v f x o r;rw [iV]at o;obtain⟨p,C,E⟩:=iR.1 o;injection E with Q S; subst Q S;obtain⟨q1,q2⟩:=hp j p.1 p.2 f x C r;exact⟨q1,q2.pur⟩
     obtain⟨R,W,l⟩:=gT (G:=G) _ (a.map fun p=>(p.1,V.pur p.2)) cparts.toList _ _ _ k (O7 Z) (fun j i v f x o r=>B j i v f x o (O7 r)) O;have s:cells.length=len*q:=by rw [XA _ _ _ _ O]; simp [wC,m]
     obtain⟨hr,hx⟩:=h.newObj [.buf cells] (.cells R e) (len*q) (.buf (fun v b=>List.all_eq_true.1 F v b) (by rw [l.1]; exact iP _) (fun j v c L X=>l.2 j v c L X) (by rw [<-l.1,s]; exact iP _)) (by simp [V.scs,V.sc]);refine⟨.slice (some ⟨w.heap.size,0,none⟩) len len,w.alloc (.cells R e),_, ?_, ?_,by simp [V.sc,St.push],hr,hx,St.le_push _ _⟩
     ·simp only [Instr.buildSlice,iB,run_underlying hu,iA,zF y,<-H];rw [iH O3]
      have A:¬len*q=0:=by
       intro U;rcases Nat.mul_eq_zero.1 U with T|T<;>omega
      rw [iH A];simp only [iB,zU y N,iA,iC,W];rfl
     ·exact .own hlen0 (by simp [Gh.setVar]) (iP _) (by simp [Gh.setVar])
    ·cases b
   ·cases b
  ·cases b
 ·cases b
def Bw:∀(l:List V) (x v:V) (a:Value) (cl:List Value),VR G x a->VRs G l cl.toArray->Ds x l=some v ->
  ∃c,(cl.foldlM Builtin.min2 a).run P w= .ok c w∧VR G v c∧V.sc st v∨(l= []∧v=x∧cl= [])
 | [],x,v,a,cl,o,b,h=>by
  simp only [Ds]at h; cases h;exact⟨a, .inr ⟨rfl,rfl,List.eq_nil_of_length_eq_zero (by simpa using b.1.symm)⟩⟩
 |y::r,x,v,a,[],o,b,h=>absurd b.1 O2
 | y ::r,x,v,a,c::cr,o,b,h=>by
  have q:=b.2 0 y c rfl rfl;simp only [Ds]at h;split at h
  ·rename_i k m s n;cases o; cases q;obtain⟨p,j⟩:=Bw r _ v (.int k (if n<m then n else m)) cr (.int k _) ⟨by simpa using b.1,fun i v c e f=>b.2 (i+1) v c (O7 e) (O7 f)⟩ h
   have hstep:((Value.int s n::cr).foldlM Builtin.min2 (.int k m)).run P w=(cr.foldlM Builtin.min2 (.int k (if n<m then n else m))).run P w:=by
    simp only [List.foldlM_cons,Builtin.min2,iB,iC,iA]
   rcases j with⟨e,f,g⟩|⟨e,f,g⟩
   ·exact⟨p, .inl ⟨by rw [hstep]; exact e,f,g⟩⟩
   ·subst e f g;exact⟨_, .inl ⟨by rw [hstep]; rfl, .int _ _,by simp [V.sc]⟩⟩
  ·cases h
theorem ll (h:Rel gl w0 G st w) {t:TypeId} {l c v:V} {cl cc:Value} {st':St} (hl:VR G l cl) (N:VR G c cc) (a:lM P st (ti P t).d l c=some (v,st')):
  SOK P gl w0 G st w (Instr.makeSlice t cl cc) v st':=by
 unfold lM at a
 split at a
 ·rename_i e f by_ k1 li k2 ci hd
  split at a
  ·rename_i hh
   obtain⟨h0,h1,h2,h3,hz,s,hs0,T⟩:=hh
   cases hl; cases N
   obtain⟨hu,i,E,Y,M⟩:=zM hd
   obtain⟨i',z,g,hzz,C⟩:=jZ hz
   rw [E]at g; injection g with g; subst g
   have hz0:VRs G (ti P e).zero.cells z.cells:=by rw [C]; exact VRs.of_zero
   have hzs:z.cells.size=f:=by rw [<-V.of_cells_length,<-C]; exact s
   have w1:IntKind.i64.wrap li=li:=IntWalk.i64_in _ O0
   have w2:IntKind.i64.wrap ci=ci:=IntWalk.i64_in _ O0
   have k:=pO hz0 ci.toNat
   rw [s]at k
   have X:∀n,(wC n (ti P e).zero.cells).length=n*f:=by intro n; simp [wC,s]
   have m:(Instr.makeSlice t (.int k1 li) (.int k2 ci)).run P w= .ok (.slice (some ⟨w.heap.size,0,none⟩) li.toNat ci.toNat) (w.alloc (.cells ((Array.range (ci.toNat*f)).map (z.cells[· % z.cells.size]!)) e)):=by
    have H:¬((i.bytes:Int)*ci>2^48):=by
     have F:(2:Int)^48=281474976710656:=O1
     rw [<-M,F]; omega
    have I:¬(ci<0):=O0
    have K:¬(li<0):=O0
    have L:¬(li>ci):=O0
    simp only [Instr.makeSlice,iB,run_underlying hu,iA,asInt,asIntOf,iC,typeInfo,run_program,E,w1,w2]
    simp only [H,I,K,L,decide_false,Bool.or_false,iT,if_false,run_askRoom,iA,iB,iC,Bool.or_self,zF E,<-Y]
    by_cases x:ci.toNat*f=0
    ·have O:ci.toNat=0:=by
      rcases Nat.mul_eq_zero.1 x with h'|h'
      ·exact h'
      ·omega
     simp only [O,Nat.zero_mul,if_true,iB,iC,iA]
     have Q:((Array.range 0).map ((#[]:Array Value)[· % (#[]:Array Value).size]!))=(Array.range 0).map (z.cells[· % z.cells.size]!):=O2
     rw [Q]
     rfl
    ·simp only [x,if_false,iB,zU E hzz,iC,iA]
     rfl
   split at a
   ·rename_i y
    subst y
    injection a with a; injection a with q r; subst q r
    obtain⟨U,Z⟩:=h.newRow (fun _=>none) ((Array.range (ci.toNat*f)).map (z.cells[· % z.cells.size]!)) e (0,0) (by intro j v hj; cases hj)
    obtain ⟨W,hx2⟩:=U.newFam (p:=0) (b:=w.heap.size) (e:=0) (lim:=ci.toNat*f) (.inl h.below.size) (YU w _) O2 (by
     intro j _
     show(if w.heap.size=w.heap.size then none else G.imm w.heap.size j)=none
     rw [iI rfl]) (fun id cs S _ hb=>Nat.lt_irrefl _ (h.var_lt (wF S) hb)) (by
     intro t' q' e' l' h1 h2
     obtain⟨k2,C2,el2,k3,_⟩:=h.fam t' q' _ _ _ h1 h2
     exact Nat.lt_irrefl _ (heap_lt k3))
    refine⟨_,_,_,m, ?_,⟨0,by simp [St.pushFam],iP _⟩,W,Z.trans (.refl _) hx2,St.le_pushFam _ _⟩
    exact VR.sl (es:= []) (b:=w.heap.size) (o:=0) (cap:=ci.toNat) (by intro j e Q; simp at Q) ⟨ci.toNat*f,by simp [Gh.setTip],O0⟩ (Nat.zero_le _)
   ·rename_i y
    injection a with a; injection a with q r; subst q r
    have A:li.toNat<=ci.toNat:=O0
    have hm:li.toNat*f<=ci.toNat*f:=Nat.mul_le_mul_right _ A
    obtain ⟨U,Z⟩:=h.newObj [.buf (wC li.toNat (ti P e).zero.cells)] (.cells ((Array.range (ci.toNat*f)).map (z.cells[· % z.cells.size]!)) e) (ci.toNat*f) (.buf (by
      intro v a
      simp only [wC,List.mem_flatten,List.mem_replicate]at a
      obtain⟨l,⟨_,rfl⟩,a⟩:=a
      exact List.all_eq_true.1 T v a) (by
      rw [X]; simpa using hm) (by
      intro j v c B N
      refine k.2 j v c ?_ N
      have hsplit:wC ci.toNat (ti P e).zero.cells=wC li.toNat (ti P e).zero.cells++wC (ci.toNat-li.toNat) (ti P e).zero.cells:=by
       simp only [wC]
       rw [<-List.flatten_append,List.replicate_append_replicate]
       congr 2; omega
      rw [hsplit,iU (zB B)]; exact B) O2) (by simp [V.scs,V.sc])
    refine⟨_,_,_,m, ?_,by simp [V.sc,St.push],U,Z,St.le_push _ _⟩
    exact .own O0 (by simp [Gh.setVar]) A (by simp [Gh.setVar])
  ·cases a
 ·cases a
def Ub (l:List MapEntry):(l.flatMap fun e=> [e.key,e.val]).length=2*l.length:=by
 induction l with
 |nil=>rfl
 |cons a r b=>simp only [List.flatMap_cons,iO,b,List.length_cons,List.length_nil]; omega
inductive EV (G:Gh):List V->List MapEntry->Prop
 |nil:EV G [] []
 |cons {k x:V} {r:List V} {e:MapEntry} {er:List MapEntry}:VR G k e.key->VR G x e.val->EV G r er->EV G (k::x::r) (e::er)
def EV.ofVRs:∀ {es:List V} {l:List MapEntry},VRs G es (l.flatMap fun e=> [e.key,e.val]).toArray->EV G es l
 | [],[],_=> .nil
 | [],e::er,h=>by have:=h.1; simp at this
 | [k],[],h=>by have:=h.1; simp at this
 | [k],e::er,h=>by have:=h.1; simp [Ub]at this
 |k::x::r,[],h=>by have:=h.1; simp at this
 | k::x::r,e::er,h=>by
  refine .cons (h.2 0 k e.key rfl rfl) (h.2 1 x e.val rfl rfl) (EV.ofVRs ⟨?_, ?_⟩)
  ·have:=h.1; simpa using this
  ·intro i v c b a;exact h.2 (i+2) v c (O7 b) (O7 a)
def EV.toVRs {es:List V} {l:List MapEntry} (h:EV G es l):VRs G es (l.flatMap fun e=> [e.key,e.val]).toArray:=by
 induction h with
 |nil=>exact⟨rfl,O2⟩
 | @cons k x r e er g j _ f=>
  refine⟨by have:=f.1; simpa using this, ?_⟩;intro i v c b a
  match i with
  |0=>simp at b a; subst b a; exact g
  |1=>simp at b a; subst b a; exact j
  |i+2=>exact f.2 i v c (O7 b) (O7 a)
def me {a b:ByteArray}:(a.data.toList=b.data.toList)↔a=b:=by
 constructor
 ·intro h;obtain⟨a⟩:=a; obtain⟨b⟩:=b;obtain⟨a⟩:=a; obtain⟨b⟩:=b;simp at h; subst h; rfl
 ·rintro rfl; rfl
def p5 (a b:ByteArray):(a==b)=decide (a=b):=by
 obtain⟨⟨a⟩⟩:=a; obtain⟨⟨b⟩⟩:=b;rw [Bool.eq_iff_iff,decide_eq_true_iff];constructor
 ·intro h;have c:(⟨a⟩:Array UInt8)==⟨b⟩:=h;have:=eq_of_beq c;rw [this]
 ·intro h;rw [h];show((⟨b⟩:Array UInt8)==⟨b⟩)=true;exact beq_self_eq_true _
def Uh {b:ByteArray} {v:V} {cv:Value} (f:VR G v cv) (g:Nat):∀ {es es':List V} {l:List MapEntry} (k:Nat),EV G es l->px (.str b.data.toList) v es=some es' ->
  (Instr.findNow .string (.string b) l k=some none∧EV G es' (l ++ [{key:= .string b,val:=cv,born:=g}])) ∨
  (∃(j:Nat) (x:Value) (old:MapEntry),Instr.findNow .string (.string b) l k=some (some (k+j,x))∧l[j]? =some old∧old.key= .string b∧EV G es' (l.modify j fun e=> {e with key:= .string b,val:=cv}))
 | _,es',_,k, .nil,h=>by
  simp only [px]at h; cases h;exact .inl ⟨rfl, .cons (.str b) f .nil⟩
 | _, es',_,k, .cons (k:=kv) (x:=xv) (r:=r) (e:=e) (er:=er) p s q,h=>by
  obtain⟨ek,ev,eb⟩:=e;simp only at p;cases p<;>simp only [px]at h<;>try (cases h; done)
  rename_i a
  by_cases c:b=a
  ·subst c;rw [iI rfl]at h;cases h;refine .inr ⟨0,ev,⟨.string b,ev,eb⟩,by simp [Instr.findNow,Instr.sameNow,p5],rfl,rfl, ?_⟩;exact .cons (.str b) f q
  ·rw [iH (fun z=>c (me.1 z))]at h;split at h
   ·rename_i A n;cases h
    have o:∀k,Instr.findNow .string (.string b) ({key:= .string a,val:=ev,born:=eb}::er) k=Instr.findNow .string (.string b) er (k+1):=by
     intro k;have:(b==a)=false:=by rw [p5]; simpa using c
     simp [Instr.findNow,Instr.sameNow,this]
    rcases Uh f g (k+1) q n with⟨i,m⟩|⟨j,x,old,i,m,t,y⟩
    ·exact .inl ⟨by rw [o]; exact i, .cons (.str a) s m⟩
    ·refine .inr ⟨j+1,x,old, ?_,by simpa using m,t, ?_⟩
     ·rw [o,i]; congr 3; omega
     ·exact .cons (.str a) s y
   ·cases h
def VN {b:List UInt8} {v:V} (f:V.pure v=true):∀ {es es':List V},(∀u∈es,V.pure u=true)->px (.str b) v es=some es'->∀u∈es',V.pure u=true
 | [],es',_,h=>by simp only [px]at h; cases h; intro u a; simp at a; rcases a with rfl|rfl; rfl; exact f
 | [x],es',_,h=>by cases x<;>simp [px]at h
 | k ::x::r,es',e,h=>by
  cases k<;>simp only [px]at h<;>try (cases h; done)
  split at h
  ·cases h;intro u a;simp only [List.mem_cons]at a;rcases a with rfl|rfl|a
   ·rfl
   ·exact f
   ·exact e u (by simp [a])
  ·split at h
   ·rename_i i c;cases h;have g:=VN f (fun u a=>e u (by simp [a])) c;intro u a;simp only [List.mem_cons]at a;rcases a with rfl|rfl|a
    ·rfl
    ·exact e u O2
    ·exact g u a
   ·cases h
def Z8 {b:ByteArray}:∀ {es:List V} {l:List MapEntry} {r:Option V} (k:Nat),EV G es l->JA b.data.toList es=some r ->
  (r=none∧Instr.findNow .string (.string b) l k=some none)∨(∃(j:Nat) (x:Value) (v:V),r=some v∧Instr.findNow .string (.string b) l k=some (some (j,x))∧VR G v x∧v∈es)
 |_,_,r,k, .nil,h=>by simp only [JA]at h; cases h; exact .inl ⟨rfl,rfl⟩
 | _,_,r,k, .cons (k:=kv) (x:=xv) (r:=rr) (e:=e) (er:=er) m s q,h=>by
  obtain⟨ek,ev,eb⟩:=e;simp only at m;cases m<;>simp only [JA]at h<;>try (cases h; done)
  rename_i a
  by_cases c:b=a
  ·subst c;rw [iI rfl]at h;cases h;exact .inr ⟨k,ev,xv,rfl,by simp [Instr.findNow,Instr.sameNow,p5],s,O2⟩
  ·rw [iH (fun p=>c (me.1 p))]at h
   have i:∀k,Instr.findNow .string (.string b) ({key:= .string a,val:=ev,born:=eb}::er) k=Instr.findNow .string (.string b) er (k+1):=by
    intro k;have:(b==a)=false:=by rw [p5]; simpa using c
    simp [Instr.findNow,Instr.sameNow,this]
   rcases Z8 (k+1) q h with⟨f,g⟩|⟨j,x,v,f,g,n,o⟩
   ·exact .inl ⟨f,by rw [i]; exact g⟩
   ·exact .inr ⟨j,x,v,f,by rw [i]; exact g,n,by simp [o]⟩
def jl {t k e:TypeId} (h:(ti P t).d= .map k e):P.underlying t=some (.map k e):=by
 obtain⟨d,hd,c⟩:=Kw h O2;rw [hd]
 cases d with
 |map a b=>simp only [tiD]at c; injection c with f g; rw [f,g]
 |slice e=>simp only [tiD]at c; split at c<;>cases c
 |array n e=>simp only [tiD]at c; split at c<;>cases c
 |struct i=>simp only [tiD]at c; split at c<;>cases c
 |_=>simp [tiD]at c
def Rel.mapOf (h:Rel gl w0 G st w) {id b:Nat} {es:List V} (f:st.vars[id]? =some [.mp es]) (k:G.var id=some b):
  ∃a e,w.heap[b]? =some (.map a e)∧EV G es a.toList∧∀v∈es,V.pure v=true:=by
 obtain⟨p,o,c,r,i,j,s⟩:=h.vars id _ f rfl;rw [k]at c; cases c
 cases j with
 | cells m n t=>
  rename_i C q;exfalso;have:0<C.size:=by have:=m; simp at this; omega
  have:=n 0 (.mp es) C[0] rfl (by simp [this]);cases this
 |mp g l=>exact⟨_,_,i,EV.ofVRs l,g⟩
def jg {b:Nat} {c:Array MapEntry} {a:Nat} (h:w.heap[b]? =some (.map c a)):(getObj b).run P w= .ok (.map c a) w:=by
 unfold getObj;simp only [Sem.run,h]
def Zi {b:Nat} {s:ByteArray} {a:Nat} (h:w.heap[b]? =some (.stringIter s a)):(getObj b).run P w= .ok (.stringIter s a) w:=by
 unfold getObj;simp only [Sem.run,h]
def PT (w:World) {b:Nat} {o:Obj} (o':Obj) (h:w.heap[b]? =some o) (a:(∃e c,o= .map e c)∨∃s p,o= .stringIter s p):∃w',(setObj b o').run P w= .ok () w'∧Chg w w' b o':=by
 have f:=heap_lt h;refine⟨{w with heap:=w.heap.setIfInBounds b o'}, ?_,⟨rfl,rfl,rfl,O2,by simp [f],fun k a=>by simp [Array.getElem?_setIfInBounds,Ne.symm a]⟩⟩;unfold setObj;rcases a with⟨e,c,rfl⟩|⟨s,p,rfl⟩<;>simp only [Sem.run,h]
def gW {kt:TypeId} (a:P.underlying kt=some .string) (em:Bool) (s:ByteArray):(Instr.checkKey em 10000 kt (.string s)).run P w= .ok () w:=by
 have:∀n,(Instr.checkKey em (n+1) kt (.string s)).run P w= .ok () w:=by
  intro n;simp only [Instr.checkKey,iB,run_underlying a,iA,iC]
 exact this 9999
def pY (s:ByteArray):(Instr.keyThatStays (.string s) (.string s)).run P w= .ok (.string s) w:=by
 have:Instr.sameBits 10000 (.string s) (.string s)=true:=by
  have:∀n,Instr.sameBits (n+1) (.string s) (.string s)=true:=by
   intro n;simp only [Instr.sameBits];exact(p5 s s).trans O2
  exact this 9999
 simp only [Instr.keyThatStays,this,if_true,iC]
def Qa (h:Rel gl w0 G st w) {t:TypeId}:SOK P gl w0 G st w (Instr.makeMap t none) (.mapv st.vars.length) (st.push [.mp []]):=by
 obtain⟨a,b⟩:=h.newObj [.mp []] (.map #[] 0) 0 (.mp O2 ⟨rfl,by simp [n6]⟩) (by simp [V.scs,V.sc]);exact⟨.map (some w.heap.size),_,_,rfl, .mapv (by simp [Gh.setVar]),by simp [V.sc,St.push],a,b,St.le_push _ _⟩
def UK (h:Rel gl w0 G st w) {t:TypeId} {m k v:V} {cm ck cv:Value} (M:VR G m cm) (L:VR G k ck) (E:VR G v cv) (N:V.sc st v) {st':St} (a:Yq P st (ti P t).d m k v=some st'):
  ∃w',(Instr.mapUpdate t cm ck cv).run P w= .ok () w'∧Rel gl w0 G st' w'∧st.le st':=by
 unfold Yq at a;split at a
 ·rename_i kt et id b hd;split at a
  ·rename_i i;obtain⟨i,C⟩:=i;split at a
   ·rename_i O q;split at a
    ·rename_i es' f;cases a
     cases M with
     | mapv F=>
      rename_i bl;cases L;rename_i s;obtain⟨g,c,hheap,A,B⟩:=h.mapOf q F;have H:=jl hd;have l:=vf i;have y:=VN C B f
      have fin:∀(ent':Array MapEntry) (clk':Nat),EV G es' ent'.toList->(Instr.mapUpdate t (.map (some bl)) (.string s) cv).run P w=(setObj bl (.map ent' clk')).run P w ->
        ∃w',(Instr.mapUpdate t (.map (some bl)) (.string s) cv).run P w= .ok () w'∧Rel gl w0 G (st.put id [.mp es']) w'∧st.le (st.put id [.mp es']):=by
       intro ent' clk' r z;obtain⟨w',n,o⟩:=PT (P:=P) w (.map ent' clk') hheap (.inl ⟨_,_,rfl⟩);exact⟨w',by rw [z]; exact n,h.storeO q rfl F o (.mp y r.toVRs) (by simp [V.scs,V.sc]),St.le_put _ _ _⟩
      have p:=gW (P:=P) (w:=w) l false s;rcases Uh (G:=G) E c 0 A f with⟨n,o⟩|⟨j,x,old,n,o,I,K⟩
      ·refine fin (g.push {key:= .string s,val:=cv,born:=c}) (c+1) (O7 o) ?_;simp only [Instr.mapUpdate,iB,run_underlying H,iA,jg hheap,p,Instr.findKey,run_underlying l,n,iC]
      ·refine fin (g.modify j fun e=> {e with key:= .string s,val:=cv}) c (O7 K) ?_
       have hold:(((g[j]?).map (·.key)).getD (.string s))= .string s:=by
        rw [<-Array.getElem?_toList,o]; simp [I]
       simp only [Instr.mapUpdate,iB,run_underlying H,iA,jg hheap,p,Instr.findKey,run_underlying l,n,iC,Nat.zero_add,hold,pY]
    ·cases a
   ·cases a
  ·cases a
 ·cases a
def GK (h:Rel gl w0 G st w) {t:TypeId} {m k v:V} {cm ck:Value} {ok:Bool} (S:VR G m cm) (Q:VR G k ck) (a:QV P st (ti P t).d m k ok=some v):
  SOK P gl w0 G st w (Instr.lookup t cm ck ok) v st:=by
 unfold QV at a;split at a
 ·rename_i kt et id b hd;split at a
  ·rename_i e;obtain⟨E,T⟩:=e;obtain⟨i,z,O,H,r⟩:=jZ T;split at a
   ·rename_i U B
    cases S with
    | mapv N=>
     rename_i bl;cases Q;rename_i s;obtain⟨y,L,hheap,n,F⟩:=h.mapOf B N;have K:=jl hd;have g:=vf E;have l:=gW (P:=P) (w:=w) g y.isEmpty s;split at a
     ·rename_i x C;cases a;rcases Z8 (G:=G) 0 n C with⟨f,_⟩|⟨j,c,u,f,A,I,M⟩
      ·cases f
      ·cases f;have o:=V.sc_of_pure st x (F x M);refine SOK.same h (c:=if ok then .tuple #[c, .bool true]else c) ?_ ?_ ?_
       ·simp only [Instr.lookup,iB,run_underlying K,iA,jg hheap,iC,l,Instr.findKey,run_underlying g,A]
       ·cases ok
        ·exact I
        ·refine .tuple rfl ?_;intro i v c a e
         match i with
         |0=>simp at a e; subst a e; exact I
         |1=>simp at a e; subst a e; exact .bool _
         |i+2=>simp at a
       ·cases ok
        ·exact o
        ·simp [V.sc,V.scs]; exact o
     ·rename_i C;cases a;rcases Z8 (G:=G) 0 n C with⟨_,A⟩|⟨j,c,u,f,_⟩
      ·have p:VR G (ti P et).zero z:=by rw [r]; exact VR.of G z
       have q:V.sc st (ti P et).zero:=by rw [r]; exact V.sc_of_pure st _ (V.pure_of z)
       refine SOK.same h (c:=if ok then .tuple #[z, .bool false]else z) ?_ ?_ ?_
       ·simp only [Instr.lookup,iB,run_underlying K,iA,jg hheap,iC,l,Instr.findKey,run_underlying g,A,zU O H]
       ·cases ok
        ·exact p
        ·refine .tuple rfl ?_;intro i v c a e
         match i with
         |0=>simp at a e; subst a e; exact p
         |1=>simp at a e; subst a e; exact .bool _
         |i+2=>simp at a
       ·cases ok
        ·exact q
        ·simp [V.sc,V.scs]; exact q
      ·cases f
     ·cases a
   ·cases a
  ·cases a
 ·cases a
def D3 (h:Rel gl w0 G st w) {t:TypeId} {s:List UInt8} {c:Value} (hd:(ti P t).d= .str) (a:VR G (.str s) c):
  SOK P gl w0 G st w (Instr.range t c) (.iter st.vars.length) (st.push [.sit s 0]):=by
 cases a;rename_i b;obtain⟨e,a⟩:=h.newObj [.sit b.data.toList 0] (.stringIter b 0) 0 (.sit b 0) (by simp [V.scs,V.sc]);refine⟨.pointer (some ⟨w.heap.size,0,none⟩),_,_, ?_, .iter (by simp [Gh.setVar]),by simp [V.sc,St.push],e,a,St.le_push _ _⟩;simp only [Instr.range,iB,run_underlying (vf hd),iA,iC];rfl
def Rel.sitOf (h:Rel gl w0 G st w) {id b:Nat} {s:List UInt8} {a:Nat} (f:st.vars[id]? =some [.sit s a]) (j:G.var id=some b):
  ∃e:ByteArray,s=e.data.toList∧w.heap[b]? =some (.stringIter e a):=by
 obtain⟨m,o,c,p,g,i,q⟩:=h.vars id _ f rfl;rw [j]at c; cases c
 cases i with
 | cells k l r=>
  rename_i C n;exfalso;have:0<C.size:=by have:=k; simp at this; omega
  have:=l 0 (.sit s a) C[0] rfl (by simp [this]);cases this
 |sit e a=>exact⟨e,rfl,g⟩
def fD (h:Rel gl w0 G st w) {t:TypeId} {it v:V} {c:Value} {st':St} (z:VR G it c) (a:Wv st it=some (v,st')):
  SOK P gl w0 G st w (Instr.next c true t) v st':=by
 unfold Wv at a;split at a
 ·rename_i id;split at a
  ·rename_i s e o
   cases z with
   | iter q=>
    rename_i b;obtain⟨g,rfl,hheap⟩:=h.sitOf o q;have p:(⟨g.data.toList.toArray⟩:ByteArray)=g:=by obtain⟨⟨l⟩⟩:=g; rfl
    rw [p]at a;split at a
    ·rename_i k;cases a;obtain⟨A,r,x⟩:=PT (P:=P) w (.stringIter g (e+(Utf8.decode g e).2)) hheap (.inr ⟨_,_,rfl⟩);have y:=h.storeO (cells:= [.sit g.data.toList (e+(Utf8.decode g e).2)]) o rfl q x (.sit g _) (by simp [V.scs,V.sc]);refine⟨.tuple #[.bool true,goInt e, .int .i32 (Utf8.decode g e).1],A,G, ?_, ?_,by simp [V.sc,V.scs],y, .refl _ _,St.le_put _ _ _⟩
     ·have f:e<g.size:=by simpa using k
      simp only [Instr.next,iB,Zi hheap,iA,f,if_true,r,iC]
     ·refine .tuple rfl ?_;intro i v c a j
      match i with
      |0=>simp at a j; subst a j; exact .bool _
      |1=>simp at a j; subst a j; exact .int _ _
      |2=>simp at a j; subst a j; exact .int _ _
      |i+3=>simp at a
    ·rename_i k;cases a;refine SOK.same h (c:= .tuple #[.bool false]) ?_ ?_ (by simp [V.sc,V.scs])
     ·have f:¬e<g.size:=by simpa using k
      simp only [Instr.next,iB,Zi hheap,iA,f,if_false,iC]
     ·refine .tuple rfl ?_;intro i v c a j
      match i with
      |0=>simp at a j; subst a j; exact .bool _
      |i+1=>simp at a
  ·cases a
 ·cases a
def Bv (h:Rel gl w0 G st w) {t ty:TypeId} {kt et:TypeId} {id:Nat} {es:List V} {c:Value} (hd:(ti P t).d= .map kt et) (e:st.vars[id]? =some [.mp es]) (l:VR G (.mapv id) c):
  (Builtin.len_ #[t] ty #[c]).run P w= .ok (goInt (es.length/2:Nat)) w:=by
 cases l with
 | mapv i=>
  rename_i b;obtain⟨a,g,hheap,f,k⟩:=h.mapOf e i
  have j:es.length/2=a.size:=by
   have:=f.toVRs.1;simp only [List.size_toArray,Ub,Array.length_toList]at this;omega
  rw [j];simp [Builtin.len_,run_underlying (jl hd),jg hheap]
end
end Go.Abs
end
