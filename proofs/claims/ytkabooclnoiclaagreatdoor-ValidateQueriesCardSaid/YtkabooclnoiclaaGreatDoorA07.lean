/- Abstract values. No condition. -/
import Derived.Test.YtkabooclnoiclaaGreatDoorA06
set_option linter.all false
section
namespace Go.Abs
open Go.RowKit (Below)
section
variable {P:Program} {gl:Nat->List V} {w0:xi} {G:Gh} {st:St} {w:World}
def eu {op:UnOp} {x v:V} {a:Value} (b:VR G x a) (h:aun op x=some v):∃c,(Op.unary op a).run P w= .ok c w∧VR G v c∧V.sc st v:=by
 unfold aun at h;split at h
 ·cases b; cases h;exact⟨_,by simp [Op.unary,Op.intArith], .int _ _,by simp [V.sc]⟩
 ·cases b;simpa [Op.unary] using dc (P:=P) (w:=w) (G:=G) (st:=st) h
 ·cases b; cases h;exact⟨_,by simp [Op.unary], .bool _,by simp [V.sc]⟩
 ·cases h
def rN {d:TypeDesc} {n sz:Nat} (h:tiD P (some d)= .arr n sz):∃e i,d= .array n e∧P.info? e=some i∧sz=i.size:=by
  cases d <;> simp only [tiD]at h<;>first
    |(cases h; done)
    | (split at h
       · rename_i f
         obtain⟨i,a⟩:=Option.isSome_iff_exists.1 f;injection h with b c; subst b c;exact⟨_,i,rfl,a,by simp [Program.cellsOf,a]⟩
       · cases h)
    |(split at h<;>cases h)
def DC {d:TypeDesc} {a:List (Nat×Nat)} (h:tiD P (some d)= .struct a):∃fields,d= .struct fields∧a=fields.toList.map (fun f=>(f.offset,P.cellsOf f.type))∧∀f∈fields.toList,(P.info? f.type).isSome=true:=by
  cases d <;> simp only [tiD]at h<;>first
    |(cases h; done)
    | (split at h
       · rename_i c
         injection h with b; subst b;exact⟨_,rfl,rfl,List.all_eq_true.1 c⟩
       · cases h)
    |(split at h<;>cases h)
def Kw {t:TypeId} {x:TD} (h:(ti P t).d=x) (a:x≠ .other):∃d,P.underlying t=some d∧tiD P (some d)=x:=by
 simp only [ti]at h
 cases hd:P.underlying t with
 |none=>rw [hd]at h; exact absurd h.symm a
 |some d=>rw [hd]at h; exact⟨d,rfl,h⟩
def zM {t e:TypeId} {sz by_:Nat} (h:(ti P t).d= .slice e sz by_):P.underlying t=some (.slice e)∧∃i,P.info? e=some i∧sz=i.size∧by_=i.bytes:=by
 obtain⟨d,hd,c⟩:=Kw h O2;obtain⟨a,b⟩:=bg c;exact⟨a▸hd,b⟩
def j6 {t:TypeId} {k:IntKind} (h:(ti P t).d= .int k):P.underlying t=some (.int k):=by
 obtain⟨d,hd,a⟩:=Kw h O2;exact Vl a▸hd
def vf {t:TypeId} (h:(ti P t).d= .str):P.underlying t=some .string:=by
 obtain⟨d,hd,a⟩:=Kw h O2;exact Vv a▸hd
def pN {t:TypeId} {n sz:Nat} (h:(ti P t).d= .arr n sz):∃e i,P.underlying t=some (.array n e)∧P.info? e=some i∧sz=i.size:=by
 obtain⟨d,hd,c⟩:=Kw h O2;obtain⟨e,i,a,b⟩:=rN c;exact⟨e,i,a▸hd,b⟩
def bh {t:TypeId} {a:List (Nat×Nat)} (h:(ti P t).d= .struct a):∃fields,P.underlying t=some (.struct fields)∧a=fields.toList.map (fun f=>(f.offset,P.cellsOf f.type))∧∀f∈fields.toList,(P.info? f.type).isSome=true:=by
 obtain⟨d,hd,e⟩:=Kw h O2;obtain⟨fields,b,c⟩:=DC e;exact⟨fields,b▸hd,c⟩
def bM {b o sz:Nat} {es:List (List V)} (f:∀e∈es,e.length=sz) (a:∀(i:Nat) (v:V),es.flatten[i]? =some v->G.imm b (o+i)=some v):u7 G b o sz es:=by
 induction es generalizing o with
 |nil=>intro i e c; simp at c
 | cons h r n=>
  intro i e c
  cases i with
  | zero=>
   simp at c; subst c;refine⟨f h O2, ?_⟩;intro j v g
   have:=a j v (by
    have m:j<h.length:=by
     rcases iS j h.length with k|k
     ·exact k
     ·rw [iN k]at g; cases g
    rw [List.flatten_cons,iU m]; exact g)
   exact .of (O7 this)
  | succ i=>
   have l:h.length=sz:=f h O2
   have:=n (o:=o+sz) (fun e c=>f e (List.mem_cons_of_mem _ c)) (by
    intro i v g;have:=a (sz+i) v (by rw [List.flatten_cons,List.getElem?_append_right O0,l]; simpa using g)
    rw [Nat.add_assoc]; exact this) i e (O7 c)
   refine⟨this.1, ?_⟩;intro j v g;have:=this.2 j v g;rw [show o+(i+1)*sz+j=o+sz+i*sz+j by rw [Nat.add_mul]; omega];exact this
def YF {b o sz:Nat} {es:List (List V)} (h:u7 G b o sz es):(∀e∈es,e.length=sz)∧∀(i:Nat) (v:V),es.flatten[i]? =some v->G.Im b (o+i) v:=by
 refine⟨?_, ?_⟩
 ·intro e j;obtain⟨i,c⟩:=List.getElem?_of_mem j;exact(h i e c).1
 ·induction es generalizing o with
  |nil=>intro i v a; simp at a
  | cons f r k=>
   intro i v a;have g:=h 0 f O2;rw [List.flatten_cons]at a;rcases iS i f.length with c|c
   ·rw [iU c]at a;simpa using g.2 i v a
   ·rw [List.getElem?_append_right c]at a
    have:=k (o:=o+sz) (by
     intro i e j;have:=h (i+1) e (O7 j);rw [show o+(i+1)*sz=o+sz+i*sz by rw [Nat.add_mul]; omega]at this
     exact this) (i-f.length) v a
    rw [g.1]at this;rw [show o+i=o+sz+(i-sz)by rw [g.1]at c; omega];exact this
def wc {sz:Nat} {es:List (List V)} (h:∀e∈es,e.length=sz):es.flatten.length=es.length*sz:=by
 induction es with
 |nil=>simp
 | cons e r b=>
  simp only [List.flatten_cons,iO,List.length_cons,h e O2,b (fun e a=>h e (List.mem_cons_of_mem _ a))];rw [Nat.add_mul]; omega
def Wt (s:List UInt8):∀e∈vT s,e.length=1:=by
 intro e a;obtain⟨b,_,rfl⟩:=List.mem_map.1 a;rfl
def dG (s:List UInt8):(vT s).flatten=s.map fun b=> .int .u8 b.toNat:=by
 induction s with
 |nil=>rfl
 |cons b r a=>simp only [vT,List.map_cons,List.flatten_cons]at *; rw [a]; rfl
def pJ (w:World) (src e:TypeId) (g:P.underlying src=some (.slice e)) (b:P.underlying e=some (.int .u8)) (a:Addr):
  ∀dst,P.underlying dst=some .string->(convert src dst (.slice (some a) 0 0)).run P w= .ok (.string ByteArray.empty) w:=by
 intro dst hd
 have f:(loadCells a 0).run P w= .ok (([]:List Int).map (Value.int .u8)).toArray w:=by
  simpa using run_loadCells_list (P:=P) w a [] (fun j v c=>by simp at c)
 rw [run_convert_bytes_string w src dst e _ 0 0 g b hd,run_bytesToString w _ 0 0 [] f];rfl
def U2 {b o:Nat} {es:List (List V)} {g:List UInt8} (h:Rel gl w0 G st w) (k:u7 G b o 1 es) (a:jp es=some g):
  ∃ns:List Int,ns.length=es.length∧g=ns.map (fun n=>UInt8.ofNat n.toNat)∧∀i,i<es.length->w.cell? ⟨b,o+i,none⟩=some (.int .u8 (ns.getD i 0)):=by
 induction es generalizing o g with
 |nil=>simp only [jp]at a; cases a; exact⟨[],rfl,rfl,fun i j=>by simp at j⟩
 | cons e r s=>
  simp only [jp]at a;split at a
  ·rename_i x y f l;cases a
   obtain ⟨ns,t,v,z⟩:=s (o:=o+1) (fun i e p=>by
    have:=k (i+1) e (O7 p);rw [show o+(i+1)*1=o+1+i*1 by omega]at this
    exact this) l
   unfold DU at f;split at f
   ·rename_i n;cases f;refine⟨n::ns,by simp [t],by simp [v], ?_⟩;intro i j
    cases i with
    | zero=>
     have:=(k 0 _ rfl).2 0 _ rfl;obtain⟨_,c,m,q⟩:=h.im this;cases q;simpa using m
    | succ i=>
     have:=z i (O7 j);rw [show o+(i+1)=o+1+i by omega,this];rfl
   ·cases f
  ·cases a
def pD {b o:Nat} {cs:List V} {f:List UInt8} (l:∀(i:Nat) (v:V),cs[i]? =some v->∃c,w.cell? ⟨b,o+i,none⟩=some c∧VR G v c) (a:vZ cs=some f):
  ∃ns:List Int,ns.length=cs.length∧f=ns.map (fun n=>UInt8.ofNat n.toNat)∧∀i,i<cs.length->w.cell? ⟨b,o+i,none⟩=some (.int .u8 (ns.getD i 0)):=by
 induction cs generalizing o f with
 |nil=>simp only [vZ]at a; cases a; exact⟨[],rfl,rfl,fun i j=>by simp at j⟩
 | cons v r p=>
  unfold vZ at a;split at a
  ·rename_i e; cases e
  ·rename_i n x e;injection e with m g; subst m g;split at a
   ·rename_i y g;cases a
    obtain ⟨ns,q,s,t⟩:=p (o:=o+1) (fun i v k=>by
     have:=l (i+1) v (O7 k);rw [show o+(i+1)=o+1+i by omega]at this
     exact this) g
    refine⟨n::ns,by simp [q],by simp [s], ?_⟩;intro i j
    cases i with
    | zero=>
     obtain⟨c,h,k⟩:=l 0 _ rfl;cases k;simpa using h
    | succ i=>
     have:=t i (O7 j);rw [show o+(i+1)=o+1+i by omega,this];rfl
   ·cases a
  ·cases a
def fO (h:Rel gl w0 G st w) {s d:TypeId} {x v:V} {a:Value} (I:VR G x a) (hsx:V.sc st x) (f:P5 P st (ti P s) (ti P d) x=some v):SOK P gl w0 G st w (convert s d a) v st:=by
 unfold P5 at f;split at f
 ·rename_i X;obtain⟨is,ds,his,K,_,_⟩:=pB X;split at f
  ·rename_i k n;cases I;split at f
   ·rename_i k' hd;cases f;exact SOK.same h (c:= .int k' (k'.wrap n)) (by simp only [convert,iB,run_underlying K,run_underlying (j6 hd),iA]; cases ds<;>rfl) (.int _ _) (by simp [V.sc])
   ·cases f
  ·rename_i b;cases I;rename_i p;split at f
   ·rename_i hd;cases f;exact SOK.same h (c:= .string p) (by simp only [convert,iB,run_underlying K,run_underlying (vf hd),iA]; cases ds<;>rfl) (.str _) (by simp [V.sc])
   ·rename_i e by_ hd;split at f
    ·rename_i hcond;cases f;obtain⟨hu,i,hi,_,_⟩:=zM hd;have N:=run_bytes_of_string (P:=P) w s d e p (vf hcond.2) hu (j6 hcond.1);have z:=grownCap_ge w p.size 0 e
     obtain ⟨Y,Z⟩:=(h.of_heap (w':=w.drew) rfl rfl rfl rfl).newRow (fun i=>(vT p.data.toList).flatten[i]?) (bytesRow p (grownCap w p.size 0 e)) e
      ((bytesRow p (grownCap w p.size 0 e)).size,(bytesRow p (grownCap w p.size 0 e)).size+1) (by
       intro i v j;rw [dG,iV]at j
       cases M:p.data.toList[i]? with
       |none=>rw [M]at j; cases j
       | some q=>
        rw [M]at j; simp at j; subst j;refine⟨rfl, .int .u8 q.toNat, ?_, .int _ _⟩
        have W:i<p.data.size:=by
         rcases iS i p.data.size with Q|Q
         ·exact Q
         ·rw [iN (by simpa using Q)]at M; cases M
        simp only [bytesRow];rw [Array.getElem?_append_left (O7 W)];simp only [Array.getElem?_map]
        rw [<-Array.getElem?_toList,M]; rfl)
     refine⟨_,_,_,N, ?_,by simp [V.sc],Y,Z, .refl _⟩;have l:p.size=(vT p.data.toList).length:=by simp [vT]
     rw [l];refine VR.sl (bM (Wt _) ?_) trivial (by rw [<-l]; simpa using z);intro i v j;show(if w.heap.size=w.heap.size then(vT p.data.toList).flatten[0+i]? else G.imm w.heap.size (0+i))=some v;rw [iI rfl,Nat.zero_add]; exact j
    ·cases f
   ·cases f
  ·split at f
   ·rename_i y hd;cases I;split at f
    ·rename_i t;cases f;exact SOK.same h (c:= .string ByteArray.empty) (run_convert_bytes_nil (P:=P) w s _ (zM y).1 (j6 t) 0 0 d (vf hd)) (.str ByteArray.empty) (by simp [V.sc])
    ·cases f
   ·cases f
  ·rename_i es tok;split at f
   ·rename_i e _ _ y hd;split at f
    ·rename_i t;split at f
     ·rename_i bs g;cases f
      cases I with
      | sl Y ht hl=>
       rename_i b o cap;obtain⟨ns,F,O,H⟩:=U2 h Y g;refine SOK.same h (c:= .string (strOfNums ns)) (run_convert_bytes_arg (P:=P) w s e (zM y).1 (j6 t) b o es.length cap ns F H d (vf hd)) ?_ (by simp [V.sc]);rw [O,<-strOfNums_data]; exact .str _
      | slnil=>
       simp only [jp]at g;cases g;exact SOK.same h (c:= .string ByteArray.empty) (run_convert_bytes_nil (P:=P) w s _ (zM y).1 (j6 t) 0 0 d (vf hd)) (.str ByteArray.empty) (by simp [V.sc])
      | slz _ a=>
       simp only [jp]at g;cases g;exact SOK.same h (c:= .string ByteArray.empty) (pJ (P:=P) w s _ (zM y).1 (j6 t) a d (vf hd)) (.str ByteArray.empty) (by simp [V.sc])
     ·cases f
    ·cases f
   ·cases f
  ·rename_i id r len cap;split at f
   ·rename_i e _ _ y hd;split at f
    ·rename_i t;split at f
     ·rename_i cells B;split at f
      ·rename_i l;split at f
       ·rename_i bs g;cases f
        cases I with
        | rsl U=>
         rename_i b;obtain⟨l,hlive⟩:=l;obtain⟨C,el,h2,S,T,A,h5⟩:=h.live B hlive U
         obtain ⟨ns,F,O,H⟩:=pD (G:=G) (w:=w) (b:=b) (o:=r) (by
          intro i v j;rw [List.getElem?_take]at j;split at j
          ·rw [List.getElem?_drop]at j;have L:r+i<C.size:=Nat.lt_of_lt_of_le (zB j) T;exact⟨C[r+i],by rw [xR S]; simp [L],A _ v _ j (by simp [L])⟩
          ·cases j) g
         have E:((cells.drop r).take len).length=len:=O3;rw [E]at F H;refine SOK.same h (c:= .string (strOfNums ns)) (run_convert_bytes_arg (P:=P) w s e (zM y).1 (j6 t) b r len cap ns F H d (vf hd)) ?_ (by simp [V.sc]);rw [O,<-strOfNums_data]; exact .str _
       ·cases f
      ·cases f
     ·cases f
    ·cases f
   ·cases f
  ·rename_i id m;split at f
   ·rename_i e _ _ y hd;split at f
    ·rename_i t;split at f
     ·rename_i cells B;split at f
      ·rename_i l;split at f
       ·rename_i bs g;cases f
        cases I with
        | own hpos U z hroom=>
         rename_i b cap;obtain⟨C,el,h2,S,_,T,A,h5⟩:=h.bufOf B O0 U
         obtain ⟨ns,F,O,H⟩:=pD (G:=G) (w:=w) (b:=b) (o:=0) (by
          intro i v j;rw [List.getElem?_take]at j;split at j
          ·have L:i<C.size:=Nat.lt_of_lt_of_le (zB j) T;exact⟨C[i],by rw [Nat.zero_add,xR S]; simp [L],A _ v _ j (by simp [L])⟩
          ·cases j) g
         have E:(cells.take m).length=m:=O3;rw [E]at F H;refine SOK.same h (c:= .string (strOfNums ns)) (run_convert_bytes_arg (P:=P) w s e (zM y).1 (j6 t) b 0 m cap ns F H d (vf hd)) ?_ (by simp [V.sc]);rw [O,<-strOfNums_data]; exact .str _
        | ownnil=>
         simp only [List.take_zero,vZ]at g;cases g;exact SOK.same h (c:= .string ByteArray.empty) (run_convert_bytes_nil (P:=P) w s _ (zM y).1 (j6 t) 0 0 d (vf hd)) (.str ByteArray.empty) (by simp [V.sc])
       ·cases f
      ·cases f
     ·cases f
    ·cases f
   ·cases f
  ·cases f
 ·cases f
end
end Go.Abs
end
