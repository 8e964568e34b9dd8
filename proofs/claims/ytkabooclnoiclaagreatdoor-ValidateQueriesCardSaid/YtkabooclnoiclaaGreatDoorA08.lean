/- Abstract values. No condition. -/
import Derived.Test.YtkabooclnoiclaaGreatDoorA07
set_option linter.all false
section
namespace Go.Abs
open Go.RowKit (Below)
section
variable {P:Program} {gl:Nat->List V} {w0:xi} {G:Gh} {st:St} {w:World}
def VR.add {x v:V} {c:Value} {k:Nat} (f:VR G x c) (h:x.add k=some v):∃b o,c= .pointer (some ⟨b,o,none⟩)∧VR G v (.pointer (some ⟨b,o+k,none⟩)):=by
 cases f with
 |ptr a=>simp only [V.add]at h; cases h; exact⟨_,_,rfl, .ptr a⟩
 |gptr=>simp only [V.add]at h; cases h; exact⟨_,_,rfl, .gptr _ _⟩
 |eptr e=>simp only [V.add]at h; cases h; exact⟨_,_,rfl,by rw [Nat.add_assoc]; exact .eptr e⟩
 |_=>simp [V.add]at h
def V.sc_add {x v:V} {k:Nat} (h:x.add k=some v) (a:V.sc st x):V.sc st v:=by
 cases x<;>simp only [V.add]at h<;>first|(cases h; done)|(cases h; simpa [V.sc] using a)
def BJ (h:Rel gl w0 G st w) {s:TypeId} {r:List (Nat×Nat)} (hd:(ti P s).d= .struct r) {f off n:Nat} (a:r[f]? =some (off,n)) (y:n≠0) {x v:V} {c:Value} (B:VR G x c) (l:V.sc st x)
  (z:x.add off=some v):SOK P gl w0 G st w (Instr.fieldAt s c f) v st:=by
 obtain⟨fields,A,g,j⟩:=bh hd;rw [g,iV]at a
 cases e:fields.toList[f]? with
 |none=>rw [e]at a; cases a
 | some q=>
  rw [e]at a; simp at a; obtain⟨rfl,rfl⟩:=a;obtain⟨i,t⟩:=Option.isSome_iff_exists.1 (j q (iQ e));have m:P.cellsOf q.type=i.size:=by simp [Program.cellsOf,t]
  obtain⟨b,o,rfl,p⟩:=VR.add B z;refine SOK.same h (c:= .pointer (some ⟨b,o+q.offset,none⟩)) ?_ p (V.sc_add z l);have k:fields[f]? =some q:=by rw [<-Array.getElem?_toList]; exact e
  rw [m]at y;simp only [Instr.fieldAt,iB,run_underlying A,iA,k,Instr.sureAddr,iC,fieldPlace,zF t,y,if_false,wn]
def Kx (h:Rel gl w0 G st w) {t:TypeId} {x v:V} {c:Value} {k:IntKind} {i:Int} (z:VR G x c) (p:V.sc st x) (a:vN (ti P t).d x i=some v):
  SOK P gl w0 G st w (Instr.indexAt t c (.int k i)) v st:=by
 unfold vN at a;split at a
 ·rename_i n r hd;split at a
  ·rename_i g;obtain⟨e,ie,q,m,f⟩:=pN hd;obtain⟨b,o,rfl,A⟩:=VR.add z a;refine SOK.same h (c:= .pointer (some ⟨b,o+i.toNat*r,none⟩)) ?_ A (V.sc_add a p);simp only [Instr.indexAt,asIntOf,iB,iC,iA,run_underlying q,Instr.sureAddr];simp only [g,and_self,if_true,iB,zF m,iA,iC,wn,f]
  ·cases a
 ·rename_i e r by_ y C M hd;split at a
  ·rename_i g;obtain⟨rfl,s⟩:=g;split at a
   ·rename_i H l;cases a
    have j:i<C.length:=by
     rcases iS i.toNat C.length with E|E
     ·omega
     ·rw [iN E]at l; cases l
    obtain⟨q,ie,m,f,_⟩:=zM hd
    cases z with
    | sl L O N=>
     rename_i b o cap;refine SOK.same h (c:= .pointer (some ⟨b,o+i.toNat*r+0,none⟩)) ?_ (.eptr (L i.toNat H l).2) (by simp [V.sc]);simp only [Instr.indexAt,asIntOf,iB,iC,iA,run_underlying q];simp only [s,j,and_self,if_true,iB,zF m,iA,iC,wn,f,Nat.add_zero]
    |slnil=>simp at j; omega
    |slz=>simp at j; omega
   ·cases a
  ·cases a
 ·rename_i e r by_ id B len cap y hd;split at a
  ·rename_i g;obtain⟨rfl,s,j⟩:=g;cases a;obtain⟨q,ie,m,f,_⟩:=zM hd
   cases z with
   | rsl g=>
    rename_i b;refine SOK.same h (c:= .pointer (some ⟨b,B+i.toNat*r,none⟩)) ?_ (.ptr g) (by simpa [V.sc] using p);simp only [Instr.indexAt,asIntOf,iB,iC,iA,run_underlying q];simp only [s,j,and_self,if_true,iB,zF m,iA,iC,wn,f,Nat.add_zero]
  ·cases a
 ·rename_i e r by_ id n y hd;split at a
  ·rename_i g;obtain⟨rfl,s,j⟩:=g;cases a;obtain⟨q,ie,m,f,_⟩:=zM hd
   cases z with
   | own F g I K=>
    rename_i b cap;refine SOK.same h (c:= .pointer (some ⟨b,0+i.toNat*r,none⟩)) ?_ (by rw [Nat.zero_add]; exact .ptr g) (by simpa [V.sc] using p);simp only [Instr.indexAt,asIntOf,iB,iC,iA,run_underlying q];simp only [s,j,and_self,if_true,iB,zF m,iA,iC,wn,f,Nat.zero_add]
   |ownnil=>exact absurd j O3
  ·cases a
 ·cases a
def Dw {t:TypeId} {x v:V} {c:Value} {k:IntKind} {i:Int} (l:VR G x c) (a:XN (ti P t).d x i=some v):
  ∃r,(Instr.index t c (.int k i)).run P w= .ok r w∧VR G v r∧V.sc st v:=by
 unfold XN at a;split at a
 ·rename_i s hd;split at a
  ·rename_i j;split at a
   ·rename_i b e;cases a;cases l;rename_i g;refine⟨.int .u8 b.toNat, ?_, .int _ _,by simp [V.sc]⟩
    have:g[i.toNat]? =some b:=by
     have f:i.toNat<g.data.size:=by
      rcases iS i.toNat g.data.size with h|h
      ·exact h
      ·rw [iN (by simpa using h)]at e; cases e
     rw [ByteArray.getElem?_lt' g i.toNat f];rw [iK (O7 f)]at e;injection e with e;rw [<-e]; rfl
    simp only [Instr.index,asIntOf,iB,iC,iA,run_underlying (vf hd),j,if_true,this]
   ·cases a
  ·cases a
 ·cases a
def oP {t:TypeId} {ty:TypeId} {x v:V} {c:Value} (f:VR G x c) (a:GQ (ti P t).d x=some v):
  ∃r,(Builtin.len_ #[t] ty #[c]).run P w= .ok r w∧VR G v r∧V.sc st v:=by
 unfold GQ at a;split at a
 ·rename_i s hd;cases a;cases f;rename_i g;refine⟨goInt g.size,by simp [Builtin.len_,run_underlying (vf hd)], ?_,by simp [V.sc]⟩;have:(g.data.toList.length:Int)=g.size:=O2;rw [this]; exact .int _ _
 ·rename_i hd;cases a;obtain⟨b,_⟩:=zM hd
  cases f with
  |sl=>exact⟨_,by simp [Builtin.len_,run_underlying b]; rfl, .int _ _,by simp [V.sc]⟩
  |slnil=>exact⟨_,by simp [Builtin.len_,run_underlying b]; rfl, .int _ _,by simp [V.sc]⟩
  |slz=>exact⟨_,by simp [Builtin.len_,run_underlying b]; rfl, .int _ _,by simp [V.sc]⟩
 ·rename_i hd;cases a;obtain⟨b,_⟩:=zM hd;cases f;exact⟨_,by simp [Builtin.len_,run_underlying b]; rfl, .int _ _,by simp [V.sc]⟩
 ·rename_i hd;cases a;obtain⟨b,_⟩:=zM hd;cases f;exact⟨_,by simp [Builtin.len_,run_underlying b]; rfl, .int _ _,by simp [V.sc]⟩
 ·rename_i hd;cases a;obtain⟨b,_⟩:=zM hd
  cases f with
  |own=>exact⟨_,by simp [Builtin.len_,run_underlying b]; rfl, .int _ _,by simp [V.sc]⟩
  |ownnil=>exact⟨_,by simp [Builtin.len_,run_underlying b]; rfl, .int _ _,by simp [V.sc]⟩
 ·rename_i n h hd;cases a;obtain⟨e,i,b,_⟩:=pN hd;refine⟨goInt n, ?_, .int _ _,by simp [V.sc]⟩;simp only [Builtin.len_,Array.getElem?_singleton,List.size_toArray,List.length_singleton,List.getElem?_toArray,List.getElem?_cons_zero,iB,run_underlying b,iA];cases c<;>rfl
 ·cases a
def jr {len m:Nat} {lo hi:Option V} {clo chi:Option Value} {l h:Nat} (j:∀v c,lo=some v->clo=some c->VR G v c) (p:∀v c,hi=some v->chi=some c->VR G v c)
  (b:lo.isSome=clo.isSome) (g:hi.isSome=chi.isSome) (t:len<=m) (isS:Bool) (a:uf len lo hi=some (l,h)):
  (Instr.sliceBounds isS len m clo chi none).run P w= .ok (l,h,m) w∧l<=h∧h<=len:=by
 unfold uf at a
 cases hi with
 | none=>
  cases chi with
  |some c=>simp at g
  | none=>
   simp only at a
   cases lo with
   | none=>
    cases clo with
    |some c=>simp at b
    | none=>
     cases a;exact⟨by simp [Instr.sliceBounds],O0,O0⟩
   | some v=>
    cases clo with
    |none=>simp at b
    | some c=>
     have q:=j v c rfl rfl;cases q<;>simp only at a<;>first|(cases a; done)|skip
     rename_i k i;split at a
     ·rename_i f;cases a;exact⟨by simp [Instr.sliceBounds,Instr.sliceBound,asIntOf,f],O0,O0⟩
     ·cases a
 | some vh=>
  cases chi with
  |none=>simp at g
  | some ch=>
   have r:=p vh ch rfl rfl;cases r<;>simp only at a<;>first|(cases a; done)|skip
   rename_i kh s;split at a
   ·cases a
   ·rename_i n;split at n
    ·rename_i o;cases n;have e:0<=s∧s<=(m:Int):=⟨o.1,O0⟩
     cases lo with
     | none=>
      cases clo with
      |some c=>simp at b
      | none=>
       cases a;exact⟨by simp [Instr.sliceBounds,Instr.sliceBound,asIntOf,e],O0,O0⟩
     | some v=>
      cases clo with
      |none=>simp at b
      | some c=>
       have q:=j v c rfl rfl;cases q<;>simp only at a<;>first|(cases a; done)|skip
       rename_i k i;split at a
       ·rename_i f;cases a;exact⟨by simp only [Instr.sliceBounds,Instr.sliceBound,asIntOf,iB,iC,iA,e,f,and_self,if_true],O0,O0⟩
       ·cases a
    ·cases n
def u7.slice {b o sz l h:Nat} {es:List (List V)} (c:u7 G b o sz es) (g:l<=h):u7 G b (o+l*sz) sz ((es.take h).drop l):=by
 intro i e a;rw [List.getElem?_drop,List.getElem?_take]at a;split at a
 ·have:=c (l+i) e a;refine⟨this.1,fun j v f=> ?_⟩;have:=this.2 j v f;rw [show o+l*sz+i*sz+j=o+(l+i)*sz+j by rw [Nat.add_mul]; omega];exact this
 ·cases a
def u7.nil {b o sz:Nat}:u7 G b o sz []:=fun i e a=>by simp at a
def Dv (h:Rel gl w0 G st w) {t:TypeId} {x v:V} {c:Value} {lo hi mx:Option V} {clo chi cmx:Option Value} (O:VR G x c) (M:V.sc st x)
  (z:∀v c,lo=some v->clo=some c->VR G v c) (p:∀v c,hi=some v->chi=some c->VR G v c) (r:lo.isSome=clo.isSome) (y:hi.isSome=chi.isSome) (hl3:mx.isSome=cmx.isSome)
  (g:jk (ti P t).d x lo hi mx=some v):SOK P gl w0 G st w (Instr.sliceAt t c clo chi cmx) v st:=by
 unfold jk at g;split at g
 ·cases g
 ·have Z:cmx=none:=by cases cmx<;>simp_all
  subst Z;split at g
  ·rename_i s hd;split at g
   ·rename_i l A C;cases g;cases O;rename_i Q;have E:=vf hd;have k:Q.data.toList.length=Q.size:=O2;rw [k]at C;obtain⟨f,K,L⟩:=jr (P:=P) (w:=w) (m:=Q.size) z p r y (iP _) false C;refine SOK.same h (c:= .string (Q.extract l A)) ?_ ?_ (by simp [V.sc])
    ·simp only [Instr.sliceAt,iB,run_underlying E,iA,Instr.slice,f];simp [f]
    ·have:(Q.extract l A).data.toList=(Q.data.toList.take A).drop l:=by
      rw [ByteArray.data_extract,Array.toList_extract];simp [List.extract,List.drop_take]
     rw [<-this]; exact .str _
   ·cases g
  ·rename_i e S by_ Y es tok hd;split at g
   ·rename_i l A C;split at g
    ·rename_i B;subst B;cases g;obtain⟨E,i,j,k,_⟩:=zM hd
     cases O with
     | sl hr ht hl=>
      rename_i b o cap;obtain⟨f,K,L⟩:=jr (P:=P) (w:=w) (m:=cap) z p r y hl true C;have I:((es.take A).drop l).length=A-l:=O3;refine SOK.same h (c:= .slice (some ⟨b,if cap=l then o else o+l*S,none⟩) (A-l) (cap-l)) ?_ ?_ ?_
      ·simp only [Instr.sliceAt,iB,run_underlying E,iA,Instr.slice,f,zF j,iC,<-k]
       by_cases W:cap=l
       ·simp [W]
       ·simp [W,wn]
      ·rw [<-I]
       by_cases W:cap=l
       ·have he:(es.take A).drop l= []:=by
         apply List.eq_nil_of_length_eq_zero; rw [I]; omega
        rw [iI W,he];exact .sl u7.nil trivial O2
       ·rw [iH W];exact .sl (hr.slice K) trivial (by rw [I]; omega)
      ·simp [V.sc]
     | slnil=>
      obtain⟨f,K,L⟩:=jr (P:=P) (w:=w) (m:=0) z p r y (iP _) true (l:=l) (h:=A) (O7 C);have T:l=0:=O0;have U:A=0:=O0;subst T U;refine SOK.same h (c:= .slice none 0 0) ?_ (by simp; exact .slnil _ _) (by simp [V.sc]);simp only [Instr.sliceAt,iB,run_underlying E,iA,Instr.slice,f,zF j,iC];simp
     | slz _ a=>
      obtain⟨f,K,L⟩:=jr (P:=P) (w:=w) (m:=0) z p r y (iP _) true (l:=l) (h:=A) (O7 C);have T:l=0:=O0;have U:A=0:=O0;subst T U;refine SOK.same h (c:= .slice (some a) 0 0) ?_ (by simp; exact .slz _ _) (by simp [V.sc]);simp only [Instr.sliceAt,iB,run_underlying E,iA,Instr.slice,f,zF j,iC];simp
    ·cases g
   ·cases g
  ·rename_i e S by_ id n Y hd;split at g
   ·rename_i l A C;split at g
    ·rename_i B;obtain⟨rfl,rfl,X⟩:=B;cases g;obtain⟨E,i,j,k,_⟩:=zM hd
     cases O with
     | own h0 F H hroom=>
      rename_i b cap;obtain⟨f,K,L⟩:=jr (P:=P) (w:=w) (m:=cap) z p r y H true C;refine SOK.same h (c:= .slice (some ⟨b,0,none⟩) A cap) ?_ (.own X F O0 hroom) (by simpa [V.sc] using M);simp only [Instr.sliceAt,iB,run_underlying E,iA,Instr.slice,f,zF j,iC,<-k];have:¬cap=0:=O0;simp [this,wn]
     | ownnil=>
      obtain⟨f,K,L⟩:=jr (P:=P) (w:=w) (m:=0) z p r y (iP _) true C;omega
    ·cases g
   ·cases g
  ·rename_i hd;split at g
   ·rename_i q C;cases g;obtain⟨E,i,j,k,_⟩:=zM hd;cases O;obtain⟨f,K,L⟩:=jr (P:=P) (w:=w) (m:=0) z p r y (iP _) true (l:=q.1) (h:=q.2) (O7 C);refine SOK.same h (c:= .slice none 0 0) ?_ .nilsl (by simp [V.sc]);simp only [Instr.sliceAt,iB,run_underlying E,iA,Instr.slice,f,zF j,iC];have:q.2-q.1=0:=O0;have T:q.1=0:=O0;have U:q.2=0:=O0;simp [U,T]
   ·cases g
  ·rename_i e S by_ id N len cap Y hd;split at g
   ·rename_i l A C;split at g
    ·rename_i B;obtain⟨rfl,hlc,H⟩:=B;cases g;obtain⟨E,i,j,k,_⟩:=zM hd
     cases O with
     | rsl F=>
      rename_i b;obtain⟨f,K,L⟩:=jr (P:=P) (w:=w) (m:=cap) z p r y H true C;refine SOK.same h (c:= .slice (some ⟨b,N+l*S,none⟩) (A-l) (cap-l)) ?_ (.rsl F) (by simpa [V.sc] using M);simp only [Instr.sliceAt,iB,run_underlying E,iA,Instr.slice,f,zF j,iC,<-k];have:¬cap=l:=O0;simp [this,wn]
    ·cases g
   ·cases g
  ·rename_i n S id N hd;split at g
   ·rename_i l A C;split at g
    ·rename_i hln;cases g;obtain⟨e,i,E,j,k⟩:=pN hd
     cases O with
     | ptr F=>
      rename_i b;obtain⟨f,K,L⟩:=jr (P:=P) (w:=w) (m:=n) z p r y (iP _) false C;refine SOK.same h (c:= .slice (some ⟨b,N+l*S,none⟩) (A-l) (n-l)) ?_ (.rsl F) (by simpa [V.sc] using M);simp only [Instr.sliceAt,iB,run_underlying E,iA,Instr.sureAddr,f,zF j,iC,<-k];have:¬n=l:=O0;simp [this,wn]
    ·cases g
   ·cases g
  ·cases g
end
end Go.Abs
end
