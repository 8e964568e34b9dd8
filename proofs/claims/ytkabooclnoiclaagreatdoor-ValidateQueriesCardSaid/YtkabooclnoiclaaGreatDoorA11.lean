/- Abstract values. No condition. -/
import Derived.Test.YtkabooclnoiclaaGreatDoorA10
set_option linter.all false
section
namespace Go.Abs
open Go.RowKit (Below)
def OOK (P:Program) (gl:Nat->List V) (w0:xi) (G:Gh) (st:St) (w:World) (a:Act) (o:Oper) (v:V) (st':St):Prop:=
 ∃c b G',((execOp a.eval o).run P w= .ok (.value c) b∨((execOp a.eval o).run P w= .ok .skip b∧c=undef))∧VR G' v c∧V.sc st' v∧Rel gl w0 G' st' b∧Ext st G G'∧st.le st'
section
variable {P:Program} {gl:Nat->List V} {w0:xi} {G:Gh} {st:St} {w:World} {a:Act} {fr:AFr}
def OOK.of {o:Oper} {s:Sem Value} {v:V} {st':St} (h:SOK P gl w0 G st w s v st') (f:execOp a.eval o=(do pure (.value (<-s)))):OOK P gl w0 G st w a o v st':=by
 obtain⟨c,g,G',b,e⟩:=h;exact⟨c,g,G', .inl (by rw [f]; simp only [iB,b,iA,iC]),e⟩
def YL {lo:Option Operand} (b:wP G st fr a):(∀v c,lo.map fr.eval=some v->lo.map a.eval=some c->VR G v c)∧(lo.map fr.eval).isSome=(lo.map a.eval).isSome:=by
 cases lo with
 |none=>simp
 |some x=>simp; exact(b.eval x).2
def X9 (g:wP G st fr a) (b:Array (Nat×Operand)):
  (b.toList.map fun(i,x)=>(i,fr.eval x)).length=(b.map fun(i,x)=>(i,a.eval x)).size ∧
  (∀(j:Nat) i v f x,(b.toList.map fun(i,x)=>(i,fr.eval x))[j]? =some (i,v)->(b.map fun(i,x)=>(i,a.eval x))[j]? =some (f,x)->i=f∧VR G v x) ∧
  ∀p∈(b.toList.map fun(i,x)=>(i,fr.eval x)),V.sc st p.2:=by
 refine⟨O2, ?_, ?_⟩
 ·intro j i v f x c e;simp only [iV,Array.getElem?_toList,Array.getElem?_map]at c e
  cases h:b[j]? with
  |none=>rw [h]at c; cases c
  | some q=>
   rw [h]at c e;simp at c e;obtain⟨rfl,rfl⟩:=c;obtain⟨rfl,rfl⟩:=e;exact⟨rfl,(g.eval _).2⟩
 ·intro p k;obtain⟨q,_,rfl⟩:=List.mem_map.1 k;exact(g.eval _).1
def V1 (h:Rel gl w0 G st w) (l:wP G st fr a) {b:Builtin} {args:Array Operand} {tys:Array TypeId} {ty:TypeId} {cs:Array Bool} {v:V} {st':St}
  (f:qN P st b (tys.toList.map (ti P)) (args.toList.map fr.eval)=some (v,st')):
  ∃s:Sem Value,builtin b tys ty cs (args.map a.eval)=(do pure (.value (<-s)))∧SOK P gl w0 G st w s v st':=by
 obtain⟨args⟩:=args;obtain⟨tys⟩:=tys;unfold qN at f;split at f
 ·rename_i t x g e
  match tys,args,g,e with
  |_,[],g,e=>simp at e
  |_,_::_::_,g,e=>simp at e
  | [C],[k],g,e=>
   simp only [List.map_cons,List.map_nil,List.cons.injEq,and_true]at g e;subst g;split at f
   ·rename_i kt et E hd q;cases f;have A:=l.eval k;rw [e]at A;have m:=Bv (ty:=ty) h hd q A.2;exact⟨_,rfl,SOK.same h (c:=goInt (E.length/2:Nat)) (O7 m) (.int _ _) (by simp [V.sc])⟩
   ·cases f
 ·rename_i t x g e
  match tys,args,g,e with
  | [C],[k],g,e=>
   simp only [List.map_cons,List.map_nil,List.cons.injEq,and_true]at g e;subst g e;split at f
   ·rename_i H y;cases f;obtain⟨r,m,n,o⟩:=oP (P:=P) (w:=w) (G:=G) (st:=st) (ty:=ty) (l.eval k).2 y;exact⟨_,rfl,SOK.same h (O7 m) n o⟩
   ·cases f
 ·rename_i t tx s x g e
  match tys,args,g,e with
  | [C,I],[B,k],g,e=>
   simp only [List.map_cons,List.map_nil,List.cons.injEq,and_true]at g e;obtain⟨rfl,rfl⟩:=g;obtain⟨rfl,rfl⟩:=e;have:=GG (ty:=ty) h (l.eval B).2 (l.eval B).1 (l.eval k).2 f;exact⟨_,rfl,by simpa using this⟩
 ·rename_i x r e
  match args,e with
  | k::p,e=>
   simp only [List.map_cons,List.cons.injEq]at e;obtain⟨rfl,rfl⟩:=e;split at f
   ·rename_i H y;cases f;have z:=(l.evals p)
    obtain⟨c,F⟩:=Bw (P:=P) (w:=w) (G:=G) (st:=st) (p.map fr.eval) _ _ _ (p.map a.eval) (l.eval k).2 z.2 y;rcases F with⟨m,n,o⟩|⟨m,n,o⟩
    ·exact⟨_,rfl,SOK.same h (by simpa [Builtin.min_] using m) n o⟩
    ·subst n;refine⟨_,rfl,SOK.same h (c:=a.eval k) ?_ (l.eval k).2 (l.eval k).1⟩;have:p= []:=by simpa using o
     subst this;simp [Builtin.min_]
   ·cases f
 ·cases f
def pz {P:Program} {st:St} {b:Builtin} {args:List Operand} {tys:List TypeId} {ev:Operand->V} {r:V×St} (h:jW P st b args tys ev=some r):
  (∃x t tx,b= .append∧args= [.const (.slice none 0 0),x]∧tys= [t,tx]∧Y3 P st (ti P t).d (ti P tx).d (ev x)=some r)∨qN P st b (tys.map (ti P)) (args.map ev)=some r:=by
 unfold jW at h;split at h
 ·exact .inl ⟨_,_,_,rfl,rfl,rfl,h⟩
 ·exact .inr h
def KZ (h:Rel gl w0 G st w) (B:wP G st fr a) (o:Oper) {v:V} {st':St} (j:xc P gl fr st o.op=some (v,st')):OOK P gl w0 G st w a o v st':=by
 obtain⟨dst,op,ty,pos,after,guard⟩:=o;simp only at j
 cases op with
 | move x=>
  simp only [xc]at j; injection j with j; injection j with p A; subst p A;exact⟨a.eval x,w,G, .inl rfl,(B.eval x).2,(B.eval x).1,h, .refl _ _, .refl _⟩
 | assign x=>
  simp only [xc]at j; injection j with j; injection j with p A; subst p A;exact⟨a.eval x,w,G, .inl rfl,(B.eval x).2,(B.eval x).1,h, .refl _ _, .refl _⟩
 | pick c x y=>
  simp only [xc]at j;have Q:=(B.eval c).2;split at j
  ·rename_i t ht;rw [ht]at Q;injection j with j; injection j with p A; subst p A;have hc':a.eval c= .bool t:=by generalize a.eval c=q at Q; cases Q; rfl
   refine⟨if t then a.eval x else a.eval y,w,G, .inl ?_, ?_, ?_,h, .refl _ _, .refl _⟩
   ·simp only [execOp,hc',asBool,iB,iC,iA]
   ·cases t
    ·exact(B.eval y).2
    ·exact(B.eval x).2
   ·cases t
    ·exact(B.eval y).1
    ·exact(B.eval x).1
  ·cases j
 | alloc e=>
  simp only [xc]at j;split at j
  ·rename_i Q;injection j with j; injection j with p A; subst p A;obtain⟨i,z,S,hz,Z⟩:=jZ Q.1;have hn:=P7 (P:=P) (t:=e) h (v:=(ti P e).zero) (x:=z) (by rw [Z]; exact VR.of G z) (by rw [Z]; exact V.sc_of_pure st _ (V.pure_of z)) Q.2;refine OOK.of (s:=Instr.alloc e true (.tuple #[])) ?_ rfl;obtain⟨c,w',G',E,F⟩:=hn;exact⟨c,w',G',by simp only [Instr.alloc,iB,zU S hz,iA]; exact E,F⟩
  ·cases j
 | box e x=>
  simp only [xc]at j;split at j
  ·rename_i Q;injection j with j; injection j with p A; subst p A;exact OOK.of (P7 (P:=P) (t:=e) h (B.eval x).2 (B.eval x).1 Q) rfl
  ·cases j
 | build t M=>
  simp only [xc]at j;split at j
  ·rename_i N C;injection j with j; injection j with p A; subst p A;obtain⟨E,F,K⟩:=X9 B M;obtain⟨c,k1,k2,k3⟩:=Df (P:=P) (w:=w) E F K C;exact OOK.of (SOK.same h k1 k2 k3) rfl
  ·cases j
 | buildSlice t len M=>
  simp only [xc]at j;split at j
  ·rename_i N C;injection j with j; injection j with p A; subst p A;obtain⟨E,F,K⟩:=X9 B M;exact OOK.of (W5 h E F C) rfl
  ·cases j
 | load t x=>
  simp only [xc]at j;split at j
  ·rename_i N C;split at j
   ·rename_i Q;injection j with j; injection j with p A; subst p A;exact OOK.of (lr h Q.1 Q.2 (B.eval x).2 (B.eval x).1 C) rfl
   ·cases j
  ·cases j
 | store t x y=>
  simp only [xc]at j;split at j
  ·rename_i s' C;split at j
   ·rename_i Q;injection j with j; injection j with p A; subst p A;obtain⟨w',E,F,K⟩:=Dx h Q (B.eval x).2 (B.eval x).1 (B.eval y).2 (B.eval y).1 C;refine⟨undef,w',G, .inr ⟨?_,rfl⟩, .junk _,by simp [V.sc],F, .refl _ _,K⟩;simp only [execOp,iB,E,iA,iC]
   ·cases j
  ·cases j
 | nilCheck x=>
  simp only [xc]at j;have I:=B.eval x;split at j
  ·rename_i id off L;injection j with j; injection j with p A; subst p A;rw [L]at I;generalize H:a.eval x=q at I;obtain⟨T,C⟩:=I
   cases C with
   |ptr hb=>exact OOK.of (s:=pure (a.eval x)) (SOK.same h rfl (by rw [H]; exact .ptr hb) T) (by simp only [execOp,H]; rfl)
  ·rename_i p1 p2 L;injection j with j; injection j with p A; subst p A;rw [L]at I;generalize H:a.eval x=q at I;obtain⟨T,C⟩:=I
   cases C with
   |eptr hb=>exact OOK.of (s:=pure (a.eval x)) (SOK.same h rfl (by rw [H]; exact .eptr hb) T) (by simp only [execOp,H]; rfl)
  ·rename_i g off L;injection j with j; injection j with p A; subst p A;rw [L]at I;generalize H:a.eval x=q at I;obtain⟨T,C⟩:=I
   cases C with
   |gptr=>exact OOK.of (s:=pure (a.eval x)) (SOK.same h rfl (by rw [H]; exact .gptr _ _) T) (by simp only [execOp,H]; rfl)
  ·rename_i f q1 q2 L;injection j with j; injection j with p A; subst p A;rw [L]at I;generalize H:a.eval x=q at I;obtain⟨T,C⟩:=I
   cases C with
   |func E F K h4=>exact OOK.of (s:=pure (a.eval x)) (SOK.same h rfl (by rw [H]; exact .func E F K h4) T) (by simp only [execOp,H]; rfl)
  ·cases j
 | binOp op t x y yt=>
  simp only [xc]at j;split at j
  ·rename_i hne;split at j
   ·rename_i N C;injection j with j; injection j with p A; subst p A
    have hdd:(P.underlying t).isSome:=by
     cases H:P.underlying t with
     |none=>exact absurd (by simp [ti,H,tiD]) hne
     |some d=>rfl
    obtain⟨d,hd⟩:=Option.isSome_iff_exists.1 hdd;obtain⟨c,E,F,K,h4,h5⟩:=oM (P:=P) (w:=w) (st:=st) op hd (B.eval x).2 (B.eval y).2 C;refine OOK.of (s:=do eqGuard op t x y (a.eval x) (a.eval y); binOp op t (a.eval x) (a.eval y)) (SOK.same h ?_ F K) rfl;simp only [iB,ge ⟨h4,h5⟩,iA];exact E
   ·split at j
    ·rename_i N C;injection j with j; injection j with p A; subst p A;obtain⟨c,E,F,K⟩:=JZ (P:=P) (w:=w) (st:=st) op (B.eval x).2 (B.eval y).2 C x y;exact OOK.of (s:=do eqGuard op t x y (a.eval x) (a.eval y); binOp op t (a.eval x) (a.eval y)) (SOK.same h E F K) rfl
    ·cases j
  ·cases j
 | field s x f=>
  simp only [xc]at j;split at j
  ·rename_i N C;injection j with j; injection j with p A; subst p A;exact OOK.of (Dt h (B.eval x).2 (B.eval x).1 C) rfl
  ·cases j
 | unOp op t x=>
  simp only [xc]at j;split at j
  ·rename_i N C;injection j with j; injection j with p A; subst p A;obtain⟨c,E,F,K⟩:=eu (P:=P) (w:=w) (st:=st) (B.eval x).2 C;exact OOK.of (SOK.same h E F K) rfl
  ·cases j
 | convert s d x=>
  simp only [xc]at j;split at j
  ·rename_i N C;injection j with j; injection j with p A; subst p A;exact OOK.of (fO h (B.eval x).2 (B.eval x).1 C) rfl
  ·cases j
 | extract t ix=>
  simp only [xc]at j;have I:=B.eval t;split at j
  ·rename_i vs hvs;split at j
   ·rename_i N C;injection j with j; injection j with p A; subst p A;rw [hvs]at I;generalize H:a.eval t=q at I;obtain⟨T,hvr⟩:=I
    cases hvr with
    | tuple hl hr=>
     rename_i c
     have X:ix<c.size:=by
      rw [<-hl];rcases iS ix vs.length with h'|h'
      ·exact h'
      ·rw [iN h']at C; cases C
     refine OOK.of (s:=Instr.extract (a.eval t) ix) (SOK.same h (c:=c[ix]) ?_ (hr ix N _ C (by simp [X])) ?_) rfl
     ·rw [H]; simp [Instr.extract,X]
     ·simp only [V.sc,V.scs_iff]at T;exact T N (iQ C)
   ·cases j
  ·cases j
 | fieldAddr s x f=>
  simp only [xc]at j;split at j
  ·rename_i fs hd;split at j
   ·rename_i off n hfn;split at j
    ·cases j
    ·rename_i hn;split at j
     ·rename_i N C;injection j with j; injection j with p A; subst p A;exact OOK.of (BJ h hd hfn hn (B.eval x).2 (B.eval x).1 C) rfl
     ·cases j
   ·cases j
  ·cases j
 | indexAddr t x i=>
  simp only [xc]at j;have S:=(B.eval i).2;split at j
  ·rename_i k n W;rw [W]at S;split at j
   ·rename_i N C;injection j with j; injection j with p A; subst p A;generalize H:a.eval i=q at S;cases S;refine OOK.of (s:=Instr.indexAt t (a.eval x) (a.eval i)) ?_ rfl;rw [H];exact Kx h (B.eval x).2 (B.eval x).1 C
   ·cases j
  ·cases j
 | index t x i=>
  simp only [xc]at j;have S:=(B.eval i).2;split at j
  ·rename_i k n W;rw [W]at S;split at j
   ·rename_i N C;injection j with j; injection j with p A; subst p A;generalize H:a.eval i=q at S;cases S;obtain⟨r,E,F,K⟩:=Dw (P:=P) (w:=w) (st:=st) (k:=k) (B.eval x).2 C;refine OOK.of (s:=Instr.index t (a.eval x) (a.eval i)) (SOK.same h ?_ F K) rfl;rw [H]; exact E
   ·cases j
  ·cases j
 | slice t x lo S mx=>
  simp only [xc]at j;split at j
  ·rename_i N C;injection j with j; injection j with p A; subst p A;exact OOK.of (Dv h (B.eval x).2 (B.eval x).1 (YL B).1 (YL B).1 (YL B).2 (YL B).2 (YL B).2 C) rfl
  ·cases j
 | makeSlice t l c=>
  simp only [xc]at j;exact OOK.of (ll h (B.eval l).2 (B.eval c).2 j) rfl
 | makeMap t r=>
  cases r with
  | none=>
   simp only [xc]at j;injection j with j; injection j with p A; subst p A;exact OOK.of (Qa h) rfl
  |some r=>simp [xc]at j
 | mapUpdate t m k x=>
  simp only [xc]at j;split at j
  ·rename_i s' C;injection j with j; injection j with p A; subst p A;obtain⟨w',E,F,K⟩:=UK h (B.eval m).2 (B.eval k).2 (B.eval x).2 (B.eval x).1 C;refine⟨undef,w',G, .inr ⟨?_,rfl⟩, .junk _,by simp [V.sc],F, .refl _ _,K⟩;simp only [execOp,iB,E,iA,iC]
  ·cases j
 | lookup t m k ok=>
  simp only [xc]at j;split at j
  ·rename_i N C;injection j with j; injection j with p A; subst p A;exact OOK.of (GK h (B.eval m).2 (B.eval k).2 C) rfl
  ·cases j
 | range t x=>
  simp only [xc]at j;split at j
  ·rename_i s hd I;injection j with j; injection j with p A; subst p A;have:=(B.eval x).2;rw [I]at this;exact OOK.of (D3 h hd this) rfl
  ·cases j
 | next it b=>
  cases b with
  |false=>simp [xc]at j
  | true=>
   simp only [xc]at j;exact OOK.of (fD h (B.eval it).2 j) rfl
 | makeFunc fn first captured=>
  simp only [xc]at j;injection j with j; injection j with p A; subst p A;obtain⟨s1,v1⟩:=B.evals first.toList
  obtain⟨s2,v2⟩:=B.evals captured.toList;refine OOK.of (s:=Instr.makeFunc fn (first.map a.eval) (captured.map a.eval)) (SOK.same h rfl ?_ ⟨s1,s2⟩) rfl;have e1:(first.toList.map a.eval).toArray=first.map a.eval:=by rw [<-Array.toList_map,Array.toArray_toList]
  have e2:(captured.toList.map a.eval).toArray=captured.map a.eval:=by rw [<-Array.toList_map,Array.toArray_toList]
  rw [e1]at v1; rw [e2]at v2;exact .func v1.1 v1.2 v2.1 v2.2
 | call c=>
  obtain⟨callee,O,tys⟩:=c
  cases callee with
  | builtin b=>
   simp only [xc]at j;rcases pz j with⟨x,t,tx,rfl,hargs,U,j⟩|j
   ·obtain⟨O⟩:=O;obtain⟨tys⟩:=tys;simp only at hargs U;subst hargs U;have Y:=Qt (ty:=ty) h (B.eval x).2 j;have E:builtin .append ⟨[t,tx]⟩ ty ((⟨[.const (.slice none 0 0),x]⟩:Array Operand).map fun| .const _=>true|_=>false) ((⟨[.const (.slice none 0 0),x]⟩:Array Operand).map a.eval)=(do pure (.value (<-Builtin.append_ ⟨[t,tx]⟩ ty ((⟨[.const (.slice none 0 0),x]⟩:Array Operand).map a.eval)))):=rfl;refine OOK.of (s:=Builtin.append_ ⟨[t,tx]⟩ ty ((⟨[.const (.slice none 0 0),x]⟩:Array Operand).map a.eval)) (by simpa [Act.eval] using Y) ?_;show(do let d <-resolve a.eval ⟨.builtin .append,⟨[.const (.slice none 0 0),x]⟩,⟨[t,tx]⟩⟩ ty; invoke d.target d.args)=_;rw [<-E];rfl
   obtain⟨s,E,F⟩:=V1 (ty:=ty) (cs:=O.map fun| .const _=>true|_=>false) h B j;refine OOK.of F ?_;show(do let d <-resolve a.eval ⟨.builtin b,O,tys⟩ ty; invoke d.target d.args)=_;rw [<-E];rfl
  |_=>simp [xc]at j
 |_=>simp [xc]at j
end
end Go.Abs
end
