/- Abstract values. No condition. -/
import Derived.Test.YtkabooclnoiclaaGreatDoorA04
set_option linter.all false
section
namespace Go.Abs
open Go.RowKit (Below)
def SOK (P:Program) (gl:Nat->List V) (w0:xi) (G:Gh) (st:St) (w:World) (s:Sem Value) (v:V) (st':St):Prop:=
 ∃c a G',s.run P w= .ok c a∧VR G' v c∧V.sc st' v∧Rel gl w0 G' st' a∧Ext st G G'∧st.le st'
section
variable {P:Program} {gl:Nat->List V} {w0:xi} {G:Gh} {st:St} {w:World}
def SOK.same (h:Rel gl w0 G st w) {s:Sem Value} {v:V} {c:Value} (a:s.run P w= .ok c w) (e:VR G v c) (b:V.sc st v):SOK P gl w0 G st w s v st:=
 ⟨c,w,G,a,e,b,h, .refl _ _, .refl _⟩
def wn (b o k:Nat):(⟨b,o,none⟩:Addr).add k=⟨b,o+k,none⟩:=by
 unfold Addr.add; split
 ·rename_i h; subst h; rfl
 ·rfl
def pB {t:TypeId} (h:(ti P t).ok=true):∃i d,P.info? t=some i∧P.underlying t=some d∧(ti P t).sz=i.size∧(ti P t).d=tiD P (some d):=by
 simp only [ti,iF,Option.isSome_iff_exists]at h;obtain⟨⟨i,a⟩,d,hd⟩:=h;exact⟨i,d,a,hd,by simp [ti,Program.cellsOf,a],by simp [ti,hd]⟩
def zF {t:TypeId} {i:TypeInfo} (h:P.info? t=some i) (w:World):(sizeOf t).run P w= .ok i.size w:=by
 simp [sizeOf,typeInfo,h]
def gN:TypeDesc->Bool
 | .struct _| .array _ _=>true
 |_=>false
def uq {t:TypeId} {d:TypeDesc} (h:P.underlying t=some d) (w:World):(isAgg t).run P w= .ok (gN d) w:=by
 simp only [isAgg,iB,run_underlying h,iA];cases d<;>rfl
def gX {d:TypeDesc} (h:tiD P (some d)≠ .other):(tiD P (some d)).agg=gN d:=by
 cases d with
 |slice e=>simp only [tiD]at *; split at h<;>simp_all [TD.agg,gN]
 |array n e=>simp only [tiD]at *; split at h<;>simp_all [TD.agg,gN]
 | struct b=>
  simp only [tiD]at *;split at h
  ·rename_i a; rw [iI a]; rfl
  ·exact absurd rfl h
 |_=>rfl
def Ks (w:World) (b o:Nat) (t:TypeId) (cells:List V) (off n:Nat) (v:V) (i:TypeInfo) (d:TypeDesc) (hi:P.info? t=some i) (hd:P.underlying t=some d) (I:n=i.size)
  (l:(ti P t).d≠ .other)
  (E:∀(j:Nat) (u:V),cells[j]? =some u->∃c,w.cell? ⟨b,o+j,none⟩=some c∧VR G u c)
  (h:rd cells off n (ti P t).d.agg=some v):∃c,(loadVar t ⟨b,o+off,none⟩).run P w= .ok c w∧VR G v c∧(∀q:St,V.scs q cells->V.sc q v):=by
 have z:(ti P t).d.agg=gN d:=by
  have:(ti P t).d=tiD P (some d):=by simp [ti,hd]
  rw [this]at l ⊢;exact gX l
 simp only [rd]at h;simp only [loadVar,iB,uq hd,iA];rw [<-z]
 by_cases C:(ti P t).d.agg=true
 ·simp only [C,if_true]at h ⊢;split at h
  ·rename_i F;cases h
   have m:∀j,j<n->∃c u,w.cell? ⟨b,o+(off+j),none⟩=some c∧cells[off+j]? =some u∧VR G u c:=by
    intro j g
    have p:off+j<cells.length:=by
     simp only [List.length_take,List.length_drop]at F; omega
    obtain⟨c,e,k⟩:=E (off+j) _ (iK p);exact⟨c,_,e,iK p,k⟩
   have f:∀j,j<n->w.cell? ((⟨b,o+off,none⟩:Addr).add j)=some ((w.cell? ⟨b,o+(off+j),none⟩).getD undef):=by
    intro j g;obtain⟨c,u,e,_⟩:=m j g;rw [wn,Nat.add_assoc,e]; rfl
   have A:=run_loadCells (P:=P) w ⟨b,o+off,none⟩ n (fun j=>(w.cell? ⟨b,o+(off+j),none⟩).getD undef) f;refine⟨.agg ((List.range n).map fun j=>(w.cell? ⟨b,o+(off+j),none⟩).getD undef).toArray, ?_, ?_, ?_⟩
   ·simp only [iB,zF hi,iA,<-I,A,iC]
   ·refine .agg (O7 F) ?_;intro j u x a s
    have g:j<n:=by
     rcases iS j n with B|B
     ·exact B
     ·rw [iN O0]at a; cases a
    obtain⟨c,K,e,k,H⟩:=m j g;simp only [List.getElem?_toArray,iV,List.getElem?_range g,Option.map_some,e,Option.getD_some]at s;cases s;rw [List.getElem?_take,iI g,List.getElem?_drop,k]at a;cases a;exact H
   ·intro q r;simp only [V.sc,V.scs_iff]at r ⊢;intro u a;exact r u (List.mem_of_mem_drop (List.mem_of_mem_take a))
  ·cases h
 ·have y:(ti P t).d.agg=false:=by simpa using C
  simp only [y,if_false,iT]at h ⊢;obtain⟨c,e,k⟩:=E off v h;refine⟨c, ?_,k, ?_⟩
  ·rw [run_load,e]
  ·intro q r;exact(V.scs_iff q _).1 r v (iQ h)
def V.live_ne {cells:List V} (h:V.live cells=true):V.gone cells=false:=by
 unfold V.live at h;unfold V.gone;split at h<;>first|(cases h; done)|skip
 split<;>simp_all
def V.live_plain {cells:List V} (h:V.live cells=true):V.plain cells=true:=by
 unfold V.live at h;unfold V.plain;split at h<;>first|(cases h; done)|skip
 split<;>simp_all
def Rel.live (h:Rel gl w0 G st w) {id b:Nat} {cells:List V} (e:st.vars[id]? =some cells) (f:V.live cells=true) (l:G.var id=some b):
  ∃C el,w0.mine b∧w.heap[b]? =some (.cells C el (0,0))∧cells.length<=C.size∧(∀(i:Nat) (v:V) (c:Value),cells[i]? =some v->C[i]? =some c->VR G v c)∧G.room id<=C.size:=by
 obtain⟨q,o,a,g,j,k,r⟩:=h.vars id cells e (V.live_ne f);rw [l]at a; cases a;obtain⟨C,el,rfl,m,n,p⟩:=k.plain (V.live_plain f);exact⟨C,el,g,j,m,n,p⟩
def Rel.bufOf (h:Rel gl w0 G st w) {id b:Nat} {cs:List V} (f:st.vars[id]? =some [.buf cs]) (s:0<cs.length) (p:G.var id=some b):
  ∃C el,w0.mine b∧w.heap[b]? =some (.cells C el (0,0))∧(∀v∈cs,V.pcell v=true)∧cs.length<=C.size∧(∀(i:Nat) (v:V) (c:Value),cs[i]? =some v->C[i]? =some c->VR G v c)∧G.room id<=C.size:=by
 have q:V.gone [.buf cs]=false:=by cases cs with|nil=>simp at s|cons a r=>rfl
 obtain⟨t,o,e,l,m,n,x⟩:=h.vars id _ f q;rw [p]at e; cases e
 cases n with
 | cells g j k=>
  rename_i C el;exfalso;have:0<C.size:=by have:=g; simp at this; omega
  have:=j 0 (.buf cs) C[0] rfl (by simp [this]);cases this
 |buf k0 g j k=>exact⟨_,_,l,m,k0,g,j,k⟩
def V.gone_buf {cs:List V} (h:0<cs.length):V.gone [.buf cs]=false:=by cases cs with|nil=>simp at h|cons a r=>rfl
def zB {α:Type} {l:List α} {i:Nat} {x:α} (h:l[i]? =some x):i<l.length:=wF h
def Uj (h:Rel gl w0 G st w) {t:TypeId} (M:(ti P t).ok=true) (hd:(ti P t).d≠ .other) {p v:V} {c:Value} (B:VR G p c) (W:V.sc st p)
  (l:Xc gl st p (ti P t).sz (ti P t).d.agg=some v):∃x,(Instr.loadAt t c).run P w= .ok x w∧VR G v x∧V.sc st v:=by
 obtain⟨i,d,A,q,s,_⟩:=pB M;simp only [Xc]at l;split at l
 ·rename_i id m;split at l
  ·rename_i cells n;split at l
   ·cases l
   ·rename_i O
    cases B with
    | ptr K=>
     rename_i b;obtain⟨C,S,T,E,F,N,I,U⟩:=h.bufOf n O0 K
     obtain ⟨x,z,k,a⟩:=Ks (P:=P) (G:=G) w b 0 t cells m (ti P t).sz v i d A q s hd (by
      intro j u f;have r:j<C.size:=Nat.lt_of_lt_of_le (zB f) N
      refine⟨C[j],by rw [xR E]; simp [r],I j u _ f (by simp [r])⟩) l
     refine⟨x, ?_,k,a st ((V.scs_iff st _).2 fun u f=>V.sc_of_pure st u (V.pure_of_pcell (F u f)))⟩;simp only [Instr.loadAt,Instr.sureAddr,iB,iC,iA];simpa using z
  ·rename_i cells _ n;split at l
   ·rename_i hlive
    cases B with
    | ptr K=>
     rename_i b;obtain⟨C,S,T,E,F,H,N⟩:=h.live n hlive K
     obtain ⟨x,z,k,a⟩:=Ks (P:=P) (G:=G) w b 0 t cells m (ti P t).sz v i d A q s hd (by
      intro j u f;have r:j<C.size:=Nat.lt_of_lt_of_le (zB f) F
      refine⟨C[j],by rw [xR E]; simp [r],H j u _ f (by simp [r])⟩) l
     refine⟨x, ?_,k,a st (h.sc id cells n)⟩;simp only [Instr.loadAt,Instr.sureAddr,iB,iC,iA];simpa using z
   ·cases l
  ·cases l
 ·rename_i e m
  cases B with
  | eptr Q=>
   rename_i b o
   obtain ⟨x,z,k,a⟩:=Ks (P:=P) (G:=G) w b o t e m (ti P t).sz v i d A q s hd (by
    intro j u f;obtain⟨_,c,L,y⟩:=h.im (Q j u f)
    exact⟨c,L,y⟩) l
   refine⟨x, ?_,k,a st ?_⟩
   ·simp only [Instr.loadAt,Instr.sureAddr,iB,iC,iA];exact z
   ·rw [V.scs_iff];intro u f;obtain⟨j,r⟩:=List.getElem?_of_mem f;exact V.sc_of_pure st u (V.pure_of_pcell (h.im (Q j u r)).1)
 ·rename_i g m
  cases B with
  | gptr=>
   obtain ⟨x,z,k,a⟩:=Ks (P:=P) (G:=G) w g 0 t (gl g) m (ti P t).sz v i d A q s hd (by
    intro j u f;obtain⟨_,c,L,y⟩:=h.imm _ _ _ (h.glob g j u f)
    exact⟨c,by simpa using L,y⟩) l
   refine⟨x, ?_,k,a st ?_⟩
   ·simp only [Instr.loadAt,Instr.sureAddr,iB,iC,iA];simpa using z
   ·rw [V.scs_iff];intro u f;obtain⟨j,r⟩:=List.getElem?_of_mem f;exact V.sc_of_pure st u (V.pure_of_pcell (h.imm _ _ _ (h.glob g j u r)).1)
 ·cases l
def lr (h:Rel gl w0 G st w) {t:TypeId} (a:(ti P t).ok=true) (hd:(ti P t).d≠ .other) {p v:V} {c:Value} (j:VR G p c) (i:V.sc st p)
  (g:Xc gl st p (ti P t).sz (ti P t).d.agg=some v):SOK P gl w0 G st w (Instr.loadAt t c) v st:=by
 obtain⟨x,b,e,f⟩:=Uj h a hd j i g;exact SOK.same h b e f
def qA (w:World) {b:Nat} {C C':Array Value} {el:TypeId} {fz:Nat×Nat} (h:w.heap[b]? =some (.cells C el fz)):Chg w (w.setRow b C') b (.cells C' el fz):=
 ⟨rfl,rfl,rfl,setRow_size ..,setRow_heap w b C C' el fz h,fun k a=>setRow_other w b k C' a⟩
def YC {v:V} {c:Value} (h:VR G v c) (a:v.isCell=true):c.oneCell'=true:=by
 cases h<;>simp_all [V.isCell,Value.oneCell']
def Xh {v:V} {c:Value} (h:VR G v c) (b:V.isCells v.cells=true):VRs G v.cells c.cells∧∀x∈c.cells.toList,x.oneCell'=true:=by
 have one:v.isCell=true->v.cells= [v]->c.cells= #[c]->VRs G v.cells c.cells∧∀x∈c.cells.toList,x.oneCell'=true:=by
  intro n o p;rw [o,p];refine⟨⟨rfl, ?_⟩, ?_⟩
  ·intro i u x j f
   cases i with
   |zero=>simp at j f; subst j f; exact h
   |succ i=>simp at j
  ·simp; exact YC h n
 cases h with
 | agg k l=>
  rename_i m c;refine⟨⟨k,l⟩, ?_⟩;intro x f;obtain⟨i,e⟩:=List.getElem?_of_mem f;simp only [Value.cells,Array.getElem?_toList]at e
  have a:i<m.length:=by
   rw [k];rcases iS i c.size with g|g
   ·exact g
   ·rw [Array.getElem?_eq_none g]at e; cases e
  have:=l i _ x (iK a) e;refine YC this ?_;simp only [V.isCells,V.cells,List.all_eq_true]at b;exact b _ (List.getElem_mem a)
 |junk=>simp [V.isCells,V.cells,V.isCell]at b
 |tuple=>simp [V.isCells,V.cells,V.isCell]at b
 |_=>exact one rfl rfl rfl
def Xp {st:St} {v:V} (h:V.sc st v):V.scs st v.cells:=by
 cases v<;>first|(simp only [V.cells,V.scs,and_true]; exact h)|exact h
def Dx (h:Rel gl w0 G st w) {t:TypeId} (T:(ti P t).ok=true) {p v:V} {c x:Value} (hv:VR G p c) (hs:V.sc st p) (M:VR G v x) (W:V.sc st v) {st':St}
  (k:YD st p v (ti P t).sz=some st'):∃w',(Instr.storeAt t c x).run P w= .ok () w'∧Rel gl w0 G st' w'∧st.le st':=by
 obtain⟨i,d,X,hdd,L,_⟩:=pB T;simp only [YD]at k;split at k
 ·rename_i id e;split at k
  ·rename_i cells l;split at k
   ·rename_i hcond;obtain⟨m,Z,K,U⟩:=hcond;cases k
    cases hv with
    | ptr I=>
     rename_i b;obtain⟨C,N,h2,E,O,h5,H,h6⟩:=h.bufOf l O0 I;have s:∀u∈v.cells,V.pcell u=true:=fun u a=>List.all_eq_true.1 U u a;obtain⟨⟨f,B⟩,o⟩:=Xh M (by simp only [V.isCells,List.all_eq_true]; exact fun u a=>V.isCell_of_pcell (s u a));have q:=run_storeCells_at P b e N x.cells.toList 0 C w E (by simp [<-f,m]; omega) o;refine⟨w.setRow b (C.toList.take (e+0)++x.cells.toList++C.toList.drop (e+0+x.cells.toList.length)).toArray, ?_, ?_,St.le_put _ _ _⟩
     ·simp only [Instr.storeAt,Instr.sureAddr,storeVar,iB,iC,iA,zF X];rw [<-f,m,L];simp only [ne_eq,not_true,if_false,iC,iA,q]
     ·refine h.store l (V.gone_buf O0) I (qA w E) ?_ (by simp [V.scs,V.sc]);refine .buf ?_ ?_ ?_ ?_
      ·intro u a;rcases List.mem_append.1 a with a|a
       ·rcases List.mem_append.1 a with a|a
        ·exact O u (List.mem_of_mem_take a)
        ·exact s u a
       ·exact O u (List.mem_of_mem_drop a)
      ·simp [<-f,m]; omega
      ·intro j u y a g
       have Q:j<cells.length:=by
        have:=zB a;simp [m]at this; omega
       simp only [Nat.add_zero,List.getElem?_toArray,List.getElem?_append,iO,List.length_take,Array.length_toList,<-f,m,List.getElem?_take,List.getElem?_drop]at a g;have n:min e cells.length=e:=O0;have hmin2:min e C.size=e:=O0;rw [n]at a;rw [hmin2]at g
       by_cases z:j<e
       ·have r:j<e+(ti P t).sz:=O0;simp only [z,r,if_true]at a g;exact H j u y a (O7 g)
       ·by_cases r:j<e+(ti P t).sz
        ·simp only [z,r,if_true,if_false]at a g;exact B _ u y a (O7 g)
        ·simp only [z,r,if_false]at a g;refine H _ u y a ?_;simpa using g
      ·simp [<-f,m]; omega
   ·cases k
  ·rename_i cells _ l;split at k
   ·rename_i hcond;obtain⟨m,K,A,hlive⟩:=hcond;cases k
    cases hv with
    | ptr I=>
     rename_i b;obtain⟨C,N,h2,E,O,F,h5⟩:=h.live l hlive I;obtain⟨⟨f,B⟩,o⟩:=Xh M A;have q:=run_storeCells_at P b e N x.cells.toList 0 C w E (by simp [<-f,m]; omega) o;refine⟨w.setRow b (C.toList.take (e+0)++x.cells.toList++C.toList.drop (e+0+x.cells.toList.length)).toArray, ?_, ?_,St.le_put _ _ _⟩
     ·simp only [Instr.storeAt,Instr.sureAddr,storeVar,iB,iC,iA,zF X];rw [<-f,m,L];simp only [ne_eq,not_true,if_false,iC,iA,q]
     ·refine h.store l (V.live_ne hlive) I (qA w E) ?_ ?_
      ·refine .cells ?_ ?_ ?_
       ·simp [<-f,m]; omega
       ·intro j u y a g
        have Q:j<cells.length:=by
         have:=zB a;simp [m]at this; omega
        simp only [Nat.add_zero,List.getElem?_toArray,List.getElem?_append,iO,List.length_take,Array.length_toList,<-f,m,List.getElem?_take,List.getElem?_drop]at a g;have n:min e cells.length=e:=O0;have hmin2:min e C.size=e:=O0;rw [n]at a;rw [hmin2]at g
        by_cases z:j<e
        ·have r:j<e+(ti P t).sz:=O0;simp only [z,r,if_true]at a g;exact F j u y a (O7 g)
        ·by_cases r:j<e+(ti P t).sz
         ·simp only [z,r,if_true,if_false]at a g;exact B _ u y a (O7 g)
         ·simp only [z,r,if_false]at a g;refine F _ u y a ?_;simpa using g
       ·simp [<-f,m]; omega
      ·rw [V.scs_iff];have Y:=(V.scs_iff st _).1 (h.sc id cells l);have S:=(V.scs_iff st _).1 (Xp W);intro u a;rcases List.mem_append.1 a with a|a
       ·rcases List.mem_append.1 a with a|a
        ·exact Y u (List.mem_of_mem_take a)
        ·exact S u a
       ·exact Y u (List.mem_of_mem_drop a)
   ·cases k
  ·cases k
 ·cases k
def P7 (h:Rel gl w0 G st w) {t:TypeId} {v:V} {x:Value} (b:VR G v x) (a:V.sc st v) (c:V.isCells v.cells=true):
  SOK P gl w0 G st w (do pure (.pointer (some (<-newVar t x)))) (.ptr st.vars.length 0) (st.push v.cells):=by
 obtain⟨e,f⟩:=h.newVar v.cells x.cells t (Xh b c).1 (Xp a);exact⟨.pointer (some ⟨w.heap.size,0,none⟩),w.alloc (.cells x.cells t),_,rfl, .ptr (by simp [Gh.setVar]),by simp [V.sc,St.push],e,f,St.le_push _ _⟩
end
end Go.Abs
end
