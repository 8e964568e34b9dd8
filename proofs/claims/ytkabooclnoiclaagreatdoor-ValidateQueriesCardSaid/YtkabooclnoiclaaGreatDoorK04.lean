/- Closed runs. No condition. -/
import Derived.Test.YtkabooclnoiclaaGreatDoorK03
set_option linter.all false
section
namespace Go.K
open Go.Abs
def U9:List TD->List KV->List KV->Option Bool
 | [],[],[]=>some true
 |d::c,x::e,y::f=>match eI d x y,U9 c e f with|some b,some r=>some (b&&r)|_,_=>none
 |_,_,_=>none
def cn (op:BinOp) (c:List TD) (x y:KV):Option KV:=
 match c,x,y with
 | _::_, .agg e, .agg f=>match op,U9 c e f with
  | .eql,some b=>some (.bool b)
  | .neq,some b=>some (.bool (!b))
  |_,_=>none
 |_,_,_=>none
def kun (op:UnOp) (x:KV):Option KV:=
 match op,x with
 | .neg, .int k n=>some (.int k (k.wrap (0-n)))
 | .xor, .int k n=>(aun .xor (.int k n)).bind B2
 | .not, .bool b=>some (.bool !b)
 |_,_=>none
def dB (x:KV) (i:Nat):Option KV:=match x with
 | .tuple b=>b[i]?
 |_=>none
def Wr (x:KV):Option KV:=match x with
 | .ptr a b=>some (.ptr a b)
 | .func (.func f) a b=>some (.func (.func f) a b)
 | .yield id=>some (.yield id)
 | .iface t v=>some (.iface t v)
 |_=>none
def Qk (T:TypeId->TI) (Z:TypeId->KV) (x:KV) (asserted:TypeId) (ok:Bool):Option KV:=
 if(T asserted).ok=true∧(T asserted).d≠ .iface∧(T asserted).d≠ .other then
 match x with
 | .iface t v=>bif Nat.beq t asserted then some (WR ok v true)else(if ok=true∧(T asserted).zok=true then some (WR true (Z asserted) false)else none)
 | .niliface=>if ok=true∧(T asserted).zok=true then some (WR true (Z asserted) false)else none
 |_=>none
 else none
section
variable {P:Program} {B:xi} {G:Gh} {h:KH} {w:World} {fr:KFr} {a:Act}
def fI {d:TD} {x y:KV} {f g:Value} (b:KR G x f) (c:KR G y g) {r:Bool} (e:eI d x y=some r):tt d (V.ofCell f) (V.ofCell g)=some r:=by
 unfold eI at e;split at e
 ·cases b; cases c; exact e
 ·cases b; cases c;rename_i s u;rw [DE]at e;exact e
 ·cases b; cases c; exact e
 ·cases e
def Jn:∀ {m:List TD} {xs l:List KV} {j k:List Value} {r:Bool},xs.length=j.length->l.length=k.length->(∀(i:Nat) v c,xs[i]? =some v->j[i]? =some c->KR G v c) ->
  (∀(i:Nat) v c,l[i]? =some v->k[i]? =some c->KR G v c)->U9 m xs l=some r->WU m (j.map V.ofCell) (k.map V.ofCell)=some r
 | [],[],[],[],[],r,_,_,_,_,e=>by simpa [U9,WU] using e
 | d::m,x::xs,y::l,a::j,b::k,r,f,g,p,t,e=>by
  simp only [U9]at e;split at e
  ·rename_i q s C F;cases e;have z:=fI (p 0 x a rfl rfl) (t 0 y b rfl rfl) C;have A:=Jn (by simpa using f) (by simpa using g) (fun i v c o n=>p (i+1) v c o n) (fun i v c o n=>t (i+1) v c o n) F;simp only [List.map_cons,WU,z,A]
  ·cases e
 | [],[],[],[],_::_,_,_,g,_,_,_=>by simp at g
 | [],[],[],_::_,_,_,f,_,_,_,_=>by simp at f
 | [],_::_,_,_,_,_,_,_,_,_,e=>by simp [U9]at e
 | [],[],_::_,_,_,_,_,_,_,_,e=>by simp [U9]at e
 |_::_,[],_,_,_,_,_,_,_,_,e=>by simp [U9]at e
 |_::_,_::_,[],_,_,_,_,_,_,_,e=>by simp [U9]at e
 |_::_,_::_,_::_,[],_,_,f,_,_,_,_=>by simp at f
 |_::_,_::_,_::_,_::_,[],_,_,g,_,_,_=>by simp at g
def G0:Abs.Gh:=⟨fun _ _=>none,fun _=>none,fun _ _=>none,fun _=>0⟩
def eV (op:BinOp) {t:TypeId} {x y v:KV} {a b:Value} (C:KR G x a) (F:KR G y b) (e:cn op (ti P t).eqs x y=some v) (ox oy:Operand):
  ∃c,(do eqGuard op t ox oy a b; binOp op t a b:Sem Value).run P w= .ok c w∧KR G v c:=by
 unfold cn at e;split at e
 ·rename_i n er K L f
  cases C with
  | agg H q=>
   rename_i g
   cases F with
   | agg I s=>
    rename_i j
    have key:∀r,U9 (n::er) K L=some r->WU (n::er) (g.toList.map V.ofCell) (j.toList.map V.ofCell)=some r:=fun r k=>
     Jn (by simpa using H) (by simpa using I) (fun i v c m l=>q i v c m (by simpa using l)) (fun i v c m l=>s i v c m (by simpa using l)) k
    have va:VR G0 (.agg (g.toList.map V.ofCell)) (.agg g):= .agg (VRs.ofCells G0 g).1 (VRs.ofCells G0 g).2;have vb:VR G0 (.agg (j.toList.map V.ofCell)) (.agg j):= .agg (VRs.ofCells G0 j).1 (VRs.ofCells G0 j).2
    have fin:∀u,V7 op (ti P t).eqs (.agg (g.toList.map V.ofCell)) (.agg (j.toList.map V.ofCell))=some u->B2 u=some v->∃c,(do eqGuard op t ox oy (.agg g) (.agg j); binOp op t (.agg g) (.agg j):Sem Value).run P w= .ok c w∧KR G v c:=fun u A z=>by
     obtain⟨c,o,p,_⟩:=JZ (P:=P) (G:=G0) (w:=w) (st:=⟨[],[]⟩) op va vb A ox oy;exact⟨c,o,Va p z⟩
    split at e
    ·rename_i r k;cases e;rw [f]at k;exact fin (.bool r) (by rw [f]; simp only [V7,key r k]) rfl
    ·rename_i r k;cases e;rw [f]at k;exact fin (.bool (!r)) (by rw [f]; simp only [V7,key r k]) rfl
    ·cases e
 ·cases e
def td {op:UnOp} {x v:KV} {a:Value} (b:KR G x a) (e:kun op x=some v):∃c,(Op.unary op a).run P w= .ok c w∧KR G v c:=by
 unfold kun at e;split at e
 ·cases b; cases e;exact⟨_,by simp [Op.unary,Op.intArith], .int _ _⟩
 ·rename_i k n;cases b;obtain⟨u,i,j⟩:=Option.bind_eq_some_iff.1 e;obtain⟨c,f,g,_⟩:=eu (P:=P) (w:=w) (G:=G0) (st:=⟨[],[]⟩) (.int k n) i;exact⟨c,f,Va g j⟩
 ·cases b; cases e;exact⟨_,by simp [Op.unary], .bool _⟩
 ·cases e
def QD (r:KRel B G h w) {x v:KV} {c:Value} {i:Nat} (j:KR G x c) (e:dB x i=some v):KS P B G w (Instr.extract c i) v h:=by
 unfold dB at e;split at e
 ·cases j with
  | tuple k g=>
   rename_i l b;have f:i<b.size:=by rw [<-k]; exact wF e
   refine .same r (c:=b[i]) ?_ (g i v _ e (by simp [f]));simp [Instr.extract,f]
 ·cases e
def KT (r:KRel B G h w) {x v:KV} {c:Value} {xt asT:TypeId} {ok:Bool} (A:KR G x c) (e:Qk (ti P) (kz P) x asT ok=some v):KS P B G w (Instr.typeAssert c xt asT ok) v h:=by
 unfold Qk at e;split at e
 ·rename_i C;obtain⟨H,j,m⟩:=C;obtain⟨d,p,o⟩:=Kw (P:=P) (t:=asT) rfl m;have hd:∀ms,d≠ .interface ms:=fun ms F=>by subst F; rw [<-o]at j; simp [tiD]at j
  have miss:ok=true∧(ti P asT).zok=true->∀ {cc:Value},cc= .nilIface∨(∃t x,cc= .iface t x∧t≠asT)->(Instr.typeAssert cc xt asT ok).run P w= .ok (.tuple #[(match P.info? asT with|some i=>(match i.zero with|some z=>z|none=>undef)|none=>undef), .bool false]) w:=by
   intro⟨y,k⟩ cc b;obtain⟨i,z,g,f,_⟩:=Zf k;rw [g]; simp only [f];rcases b with rfl|⟨t,x,rfl,l⟩
   ·cases d<;>first|(exact absurd rfl (hd _))|simp [Instr.typeAssert,run_underlying p,y,zU g f]
   ·cases d<;>first|(exact absurd rfl (hd _))|simp [Instr.typeAssert,run_underlying p,y,zU g f,l]
  have missv:(ti P asT).zok=true->KR G (WR true (kz P asT) false) (.tuple #[(match P.info? asT with|some i=>(match i.zero with|some z=>z|none=>undef)|none=>undef), .bool false]):=by
   intro k;obtain⟨i,z,g,f,s⟩:=Zf k;rw [g]; simp only [f];rw [s];exact p6 (KR.of z) true false
  split at e
  ·rename_i t u
   cases A with
   | iface q=>
    rename_i cu;rw [jJ,Bool.cond_decide]at e;split at e
    ·rename_i n;subst n;cases e;refine .same r (c:=if ok then .tuple #[cu, .bool true]else cu) ?_ (p6 q ok true);cases d<;>first|(exact absurd rfl (hd _))|simp [Instr.typeAssert,run_underlying p]
    ·rename_i n;split at e
     ·rename_i b;cases e;exact .same r (miss b (.inr ⟨t,cu,rfl,n⟩)) (missv b.2)
     ·cases e
  ·cases A;split at e
   ·rename_i b;cases e;exact .same r (miss b (.inl rfl)) (missv b.2)
   ·cases e
  ·cases e
 ·cases e
end
def ka (P:Program) (t:TypeId):Option TypeId:=match P.underlying t with
 |some (.array _ e)=>some e
 |_=>none
def Xu (T:TypeId->TI) (a:Option TypeId) (d:TD) (x:KV) (i:Int):Option KV:=
 match d,x,a with
 | .arr n _, .agg b,some e=>if 0<=i∧i<n∧(T e).ok=true∧(T e).d≠ .other then krd b (i.toNat*(T e).sz) (T e).sz (T e).d.agg else none
 |_,_,_=>none
def DA (h:KH) (it:KV):Option KV:=match it with
 | .ptr id 0=>match h.get id with
  | some (.mit (some m) _ seen last)=>match h.get m,seen.getLast? with
   | some (.map f c),some b=>if c=last then(match j9 b f 0 with
    |some i=>match f[i]? with|some e=>some (.tuple [e.1,e.2.1])|none=>none
    |none=>none)else none
   |_,_=>none
  |_=>none
 |_=>none
def rL (x y:KV):Option KV:=match x,y with
 | .int k a, .int _ b=>some (.int k (if b<a then b else a))
 |_,_=>none
def oq (x y:KV):Option KV:=match x,y with
 | .int k a, .int _ b=>some (.int k (if b>a then b else a))
 |_,_=>none
section
variable {P:Program} {B:xi} {G:Gh} {h:KH} {w:World}
def B4 (r:KRel B G h w) {t:TypeId} {x v:KV} {c:Value} {k:IntKind} {i:Int} (Y:KR G x c) (e:Xu (ti P) (ka P t) (ti P t).d x i=some v):KS P B G w (Instr.index t c (.int k i)) v h:=by
 unfold Xu at e;split at e
 ·rename_i n _ Z U hd l;split at e
  ·rename_i W;obtain⟨L,Q,F,z⟩:=W;obtain⟨el',i',I,X,_⟩:=pN hd
   have:el'=U:=by
    unfold ka at l;rw [I]at l;simpa using l
   subst this;obtain⟨inf,d,M,q,b,H⟩:=pB F;have p:(ti P el').d.agg=gN d:=by rw [H]at z ⊢; exact gX z
   cases Y with
   | @agg _ m O S=>
    simp only [krd]at e
    by_cases l:(ti P el').d.agg=true
    ·simp only [l,if_true]at e;split at e
     ·rename_i g;cases e;have hlen2:=g;simp only [List.length_take,List.length_drop]at g;refine .same r (c:= .agg (m.extract (i.toNat*inf.size) (i.toNat*inf.size+inf.size))) ?_ ?_
      ·simp only [Instr.index,asIntOf,iB,iC,run_underlying I,iA,L,Q,and_self,if_true,zF M,part,uq q,<-p,l]
      ·by_cases T:inf.size=0
       ·refine .agg (by rw [hlen2,b,T]; simp) ?_;intro j u y f K;rw [iN (by rw [hlen2,b,T]; omega)]at f; cases f
       ·have C:i.toNat*inf.size+inf.size<=m.size:=by rw [<-O]; rw [b]at g; omega
        refine .agg (by rw [hlen2,b]; simp; omega) ?_;intro j u y f K
        have N:j<inf.size:=by
         rcases iS j inf.size with A|A
         ·exact A
         ·rw [iN (by rw [hlen2,b]; exact A)]at f; cases f
        rw [Zk _ _ _ _ N C]at K;rw [b,List.getElem?_take,iI N,List.getElem?_drop]at f;exact S _ u y f K
     ·cases e
    ·have o:(ti P el').d.agg=false:=by simpa using l
     simp only [o,if_false,iT]at e;rw [b]at e;have s:i.toNat*inf.size<m.size:=by rw [<-O]; exact wF e
     refine .same r (c:=m[i.toNat*inf.size]) ?_ (S _ v _ e (by simp [s]));simp only [Instr.index,asIntOf,iB,iC,run_underlying I,iA,L,Q,and_self,if_true,zF M,part,uq q,<-p,o,iT,if_false];have:m[i.toNat*inf.size]? =some m[i.toNat*inf.size]:=by simp [s]
     rw [this]; rfl
  ·cases e
 ·cases e
def Xr:∀ {es:List (KV×KV×Nat)} {r:List MapEntry} (b i:Nat) {k:Nat},KEs G es r->j9 b es i=some k->∃j e m,k=i+j∧es[j]? =some e∧r.find? (fun x=>x.born==b)=some m∧KR G e.1 m.key∧KR G e.2.1 m.val
 | [],_,b,i,k,_,e=>by simp [j9]at e
 | (kk,vv,c)::es,r,b,i,k,s,e=>by
  cases s with
  | @cons _ _ _ ck cv _ v o p q=>
   simp only [j9,jJ,Bool.cond_decide]at e
   by_cases f:c=b
   ·rw [iI f]at e; cases e;exact⟨0,_,⟨ck,cv,c⟩,rfl,rfl,by simp [f],o,p⟩
   ·rw [iH f]at e;obtain⟨j,x,m,t,g,l,n⟩:=Xr b (i+1) q e;exact⟨j+1,x,m,by omega,by simpa using g,by simpa [f] using l,n⟩
def GW (r:KRel B G h w) {it v:KV} {c:Value} (hx:KR G it c) (e:DA h it=some v):KS P B G w (Instr.entry c) v h:=by
 unfold DA at e;split at e
 ·rename_i id;split at e
  ·rename_i m since seen last X;split at e
   ·rename_i es z b Z U;split at e
    ·rename_i n;split at e
     ·rename_i i Y;split at e
      ·rename_i en A;injection e with e; subst e
       cases hx with
       | ptr T=>
        rename_i bb o;obtain⟨t,k,ob,I,_,L,M⟩:=r.blk _ _ X;rw [T]at I; cases I
        cases M with
        | mit hz F=>
         rename_i cm;subst hz;obtain⟨mb,mk,mob,f,_,m3,m4⟩:=r.blk _ _ Z;rcases F with⟨l,_⟩|⟨i',t,k',l,Q,S⟩
         ·cases l
         ·injection l with l; subst l;rw [S]at f; injection f with f; injection f with f H; subst f H;subst Q
          cases m4 with
          | @map _ g _ C=>
           obtain⟨j,x,mm,K,s,q3,q4,q5⟩:=Xr b 0 C Y;rw [Nat.zero_add]at K;subst K;rw [A]at s; injection s with s; subst s;have N:(getObj bb).run P w= .ok (.mapIter (some t) since seen.toArray last) w:=by simp [getObj,Sem.run,L]
           have O:(getObj t).run P w= .ok (.map g z) w:=by simp [getObj,Sem.run,m3]
           have hback:seen.toArray.back? =some b:=by rw [List.back?_toArray]; exact U
           have W:g.find? (fun x=>x.born==b)=some mm:=by rw [<-Array.find?_toList]; exact q3
           refine .same r (c:= .tuple #[mm.key,mm.val]) ?_ ?_
           ·simp only [Instr.entry,Nat.add_zero,iB,N,iA,hback,O,n,bne_self_eq_false,iT,if_false,W,iC]
           ·refine .tuple rfl ?_;intro i u y p q
            match i with
            |0=>simp at p q; subst p q; exact q4
            |1=>simp at p q; subst p q; exact q5
            |i+2=>simp at p
      ·cases e
     ·cases e
    ·cases e
   ·cases e
  ·cases e
 ·cases e
def fb (r:KRel B G h w) {x y v:KV} {c d:Value} {tys:Array TypeId} {ty:TypeId} (b:KR G x c) (f:KR G y d) (e:rL x y=some v):KS P B G w (Builtin.min_ tys ty #[c,d]) v h:=by
 unfold rL at e;split at e
 ·cases e;cases b; cases f;exact .same r (c:= .int _ _) (by simp [Builtin.min_,Builtin.min2]) (.int _ _)
 ·cases e
def fB (r:KRel B G h w) {x y v:KV} {c d:Value} {tys:Array TypeId} {ty:TypeId} (b:KR G x c) (f:KR G y d) (e:oq x y=some v):KS P B G w (Builtin.max_ tys ty #[c,d]) v h:=by
 unfold oq at e;split at e
 ·cases e;cases b; cases f;exact .same r (c:= .int _ _) (by simp [Builtin.max_,Builtin.max2]) (.int _ _)
 ·cases e
end
structure KE where
 T:TypeId->TI
 Z:TypeId->KV
 ng:Nat
 A:TypeId->Option TypeId
structure KE.Ok (P:Program) (E:KE):Prop where
 T:E.T=ti P
 Z:E.Z=kz P
 ng:E.ng<=P.globals.size
 A:E.A=ka P
def je (ev:Operand->KV) (ps:Array (Nat×Operand)):List (Nat×KV):=ps.toList.map fun p=>(p.1,ev p.2)
def zew (x:KV):List KV->Option KV
 | []=>some x
 | y::r=>match x,y with
  | .int k a, .int _ b=>zew (.int k (if b<a then b else a)) r
  |_,_=>none
def bB (E:KE) (h:KH) (b:Builtin) (c:List TypeId) (args:List KV):Option (KV×KH):=
 match b,c,args with
 | .len,[t],[x]=>match(E.T t).d with
  | .map _ _=>(Kg h x).map fun v=>(v,h)
  |d=>(Dd d x).map fun v=>(v,h)
 | .append,[t,tx],[s,x]=>dL h E.T (E.T t).d (E.T tx).d s x
 | .copy,[t,tx],[s,x]=>Uf h (E.T t).d (E.T tx).d s x
 | .clear,[t],[x]=>match(E.T t).d with
  | .map _ _=>(XM h x).map fun h=>(.tuple [],h)
  |_=>none
 | .min,_,[x,y]=>(rL x y).map fun v=>(v,h)
 | .max,_,[x,y]=>(oq x y).map fun v=>(v,h)
 |_,_,_=>none
def JP (E:KE) (t:TypeId) (x:KV) (i:Int):Option KV:=match Yj (E.T t).d x i with
 |some v=>some v
 |none=>Xu E.T (E.A t) (E.T t).d x i
def yl (E:KE) (l:Sl) (h:KH):Op->Option (KV×KH)
 | .move x| .assign x=>some (zp E.ng l x,h)
 | .pick c a b=>match zp E.ng l c with| .bool t=>some (if t then zp E.ng l a else zp E.ng l b,h)|_=>none
 | .alloc e=>if(E.T e).zok=true∧KV.isCells (E.Z e).cells=true∧wY h=true then some (.ptr h.next 0,h.push (.cells false (E.Z e).cells))else none
 | .box _ x=>if KV.isCells (zp E.ng l x).cells=true∧wY h=true then some (.ptr h.next 0,h.push (.cells false (zp E.ng l x).cells))else none
 | .build t ps=>(VV (E.T t) (E.Z t) (je (zp E.ng l) ps)).map fun v=>(v,h)
 | .buildSlice t len ps=>kf h E.T E.Z (E.T t).d len (je (zp E.ng l) ps)
 | .load t a=>if(E.T t).ok=true∧(E.T t).d≠ .other then(pE h (zp E.ng l a) (E.T t).sz (E.T t).d.agg).map fun v=>(v,h)else none
 | .store t a x=>if(E.T t).ok=true then(Wh h (zp E.ng l a) (zp E.ng l x) (E.T t).sz).map fun h=>(.tuple [],h)else none
 | .nilCheck x=>(Wr (zp E.ng l x)).map fun v=>(v,h)
 | .binOp op xt x y _=>if(E.T xt).d≠ .other then(match QW op (E.T xt).d (zp E.ng l x) (zp E.ng l y)with
  |some v=>some (v,h)
  |none=>(cn op (E.T xt).eqs (zp E.ng l x) (zp E.ng l y)).map fun v=>(v,h))else none
 | .unOp op _ x=>(kun op (zp E.ng l x)).map fun v=>(v,h)
 | .convert s d x=>kJ h E.T s d (zp E.ng l x)
 | .makeInterface t x=>if(E.T t).ok=true∧(E.T t).d≠ .iface then some (.iface t (zp E.ng l x),h)else none
 | .makeFunc fn first captured=>some (.func fn (first.toList.map (zp E.ng l)) (captured.toList.map (zp E.ng l)),h)
 | .makeMap t r=>if wY h=true then(match r with
  |none=>some (.map h.next,h.push (.map [] 0))
  | some x=>match(E.T t).d,zp E.ng l x with
   | .map _ _, .int _ _=>some (.map h.next,h.push (.map [] 0))
   |_,_=>none)else none
 | .makeSlice t n c=>Ur h E.T E.Z (E.T t).d (zp E.ng l n) (zp E.ng l c)
 | .slice t x lo j mx=>(Dh h.size (E.T t).d (zp E.ng l x) (lo.map (zp E.ng l)) (j.map (zp E.ng l)) (mx.map (zp E.ng l))).map fun v=>(v,h)
 | .fieldAddr s x f=>(qz (E.T s).d (zp E.ng l x) f).map fun v=>(v,h)
 | .field s x f=>(pq (E.T s) E.T (zp E.ng l x) f).map fun v=>(v,h)
 | .indexAddr t x i=>match zp E.ng l i with| .int _ i=>(qj (E.T t).d (zp E.ng l x) i).map fun v=>(v,h)|_=>none
 | .index t x i=>match zp E.ng l i with| .int _ i=>(JP E t (zp E.ng l x) i).map fun v=>(v,h)|_=>none
 | .entry it=>(DA h (zp E.ng l it)).map fun v=>(v,h)
 | .lookup t m k ok=>(Qj h E.T E.Z (E.T t).d (zp E.ng l m) (zp E.ng l k) ok).map fun v=>(v,h)
 | .mapUpdate t m k x| .insert t m k x=>(jM h E.T (E.T t).d (zp E.ng l m) (zp E.ng l k) (zp E.ng l x)).map fun h=>(.tuple [],h)
 | .mapEntry t m k=>bi h E.T E.Z (E.T t).d (zp E.ng l m) (zp E.ng l k)
 | .entryStore _ m s x=>(jX h (zp E.ng l m) (zp E.ng l s) (zp E.ng l x)).map fun h=>(.tuple [],h)
 | .range t x=>WO h (E.T t).d (zp E.ng l x)
 | .next it s=>pX h (zp E.ng l it) s
 | .typeAssert x _ asT ok=>(Qk E.T E.Z (zp E.ng l x) asT ok).map fun v=>(v,h)
 | .extract x i=>(dB (zp E.ng l x) i).map fun v=>(v,h)
 | .call ⟨.builtin b,g,tys⟩=>bB E h b tys.toList (g.toList.map (zp E.ng l))
 |_=>none
def uU (P:Program) (B:xi) (G:Gh) (w:World) (a:Act) (o:Oper) (v:KV) (h':KH):Prop:=
 ∃c b G',((execOp a.eval o).run P w= .ok (.value c) b∨((execOp a.eval o).run P w= .ok .skip b∧c=undef))∧G.le G'∧KR G' v c∧KRel B G' h' b
section
variable {P:Program} {E:KE} {B:xi} {G:Gh} {h:KH} {w:World} {fr:KFr} {a:Act}
def uU.of {o:Oper} {s:Sem Value} {v:KV} {h':KH} (k:KS P B G w s v h') (f:execOp a.eval o=(do pure (.value (<-s)))):uU P B G w a o v h':=by
 obtain⟨c,g,G',b,e⟩:=k;exact⟨c,g,G', .inl (by rw [f]; simp only [iB,b,iA,iC]),e⟩
def uU.ofU {o:Oper} {s:Sem Unit} {h':KH} (k:∃w',s.run P w= .ok () w'∧KRel B G h' w') (e:execOp a.eval o=(do s; pure .skip)):uU P B G w a o (.tuple []) h':=by
 obtain⟨w',b,c⟩:=k;exact⟨undef,w',G, .inr ⟨by rw [e]; simp only [iB,b,iA,iC],rfl⟩, .refl _, .tuple rfl (by simp),c⟩
def uU.val {o:Oper} {v:KV} {c:Value} (r:KRel B G h w) (e:KR G v c) (b:execOp a.eval o=pure (.value c)):uU P B G w a o v h:=
 ⟨c,w,G, .inl (by rw [b]; rfl), .refl _,e,r⟩
def Ye (e:∀x,KR G (zp E.ng fr.l x) (a.eval x)) (ps:Array (Nat×Operand)):
  (je (zp E.ng fr.l) ps).length=(ps.map fun(i,x)=>(i,a.eval x)).size∧∀(j:Nat) i v f x,(je (zp E.ng fr.l) ps)[j]? =some (i,v)->(ps.map fun(i,x)=>(i,a.eval x))[j]? =some (f,x)->i=f∧KR G v x:=by
 refine⟨by simp [je], ?_⟩;intro j i v f x b c;simp only [je,iV,Array.getElem?_toList,Array.getElem?_map]at b c
 cases g:ps[j]? with
 |none=>rw [g]at b; cases b
 | some q=>
  rw [g]at b c;simp only [Option.map_some,iL,iW]at b c;obtain⟨rfl,rfl⟩:=b;obtain⟨rfl,rfl⟩:=c;exact⟨rfl,e _⟩
def dq (f:∀x,KR G (zp E.ng fr.l x) (a.eval x)) (ps:Array Operand):KRs G (ps.toList.map (zp E.ng fr.l)) (ps.map a.eval):=by
 refine⟨by simp, ?_⟩;intro j v c b e;simp only [iV,Array.getElem?_toList,Array.getElem?_map]at b e
 cases g:ps[j]? with
 |none=>rw [g]at b; cases b
 | some q=>
  rw [g]at b e;simp only [Option.map_some,iL]at b e;subst b e;exact f _
def YZ (b:∀x,KR G (zp E.ng fr.l x) (a.eval x)) (x:Option Operand):KO' G (x.map (zp E.ng fr.l)) (x.map a.eval):=by
 cases x with
 |none=>exact .none
 |some x=>exact .some (b x)
def Q3 (A:E.Ok P) (r:KRel B G h w) {b:Builtin} {tys:Array TypeId} {args:List KV} {f:Array Value} {ty:TypeId} {cs:Array Bool} {v:KV} {h':KH} (n:KRs G args f) (e:bB E h b tys.toList args=some (v,h')):
  ∃s,(builtin b tys ty cs f)=(do pure (.value (<-s)))∧KS P B G w s v h':=by
 have o:=A.T
 have two:∀ {x y:KV},args= [x,y]->∃c d,f= #[c,d]∧KR G x c∧KR G y d:=by
  intro x y k;subst k;have p:f.size=2:=by have:=n.1; simpa using this.symm
  obtain⟨l⟩:=f
  match l,p with
  | [c,d],_=>exact⟨c,d,rfl,n.2 0 x c rfl rfl,n.2 1 y d rfl rfl⟩
 have one:∀ {x:KV},args= [x]->∃c,f= #[c]∧KR G x c:=by
  intro x k;subst k;have p:f.size=1:=by have:=n.1; simpa using this.symm
  obtain⟨l⟩:=f
  match l,p with
  | [c],_=>exact⟨c,rfl,n.2 0 x c rfl rfl⟩
 have q:∀ {t:TypeId},tys.toList= [t]->tys= #[t]:=fun {t} k=>by apply Array.ext'; simpa using k
 have z:∀ {t u:TypeId},tys.toList= [t,u]->tys= #[t,u]:=fun {t u} k=>by apply Array.ext'; simpa using k
 unfold bB at e;split at e
 ·rename_i t x m;obtain rfl:=q m;obtain⟨c,rfl,i⟩:=one rfl;rw [o]at e;split at e
  ·rename_i kt et hd;obtain⟨u,j,g⟩:=iR.1 e;simp only [iW]at g;obtain⟨rfl,rfl⟩:=g;exact⟨_,rfl,K9 (ty:=ty) r hd i j⟩
  ·obtain⟨u,j,g⟩:=iR.1 e;simp only [iW]at g;obtain⟨rfl,rfl⟩:=g;exact⟨_,rfl,mr (ty:=ty) r i j⟩
 ·rename_i t tx s x m;obtain rfl:=z m;obtain⟨c,d,rfl,i,hd⟩:=two rfl;rw [o]at e;exact⟨_,rfl,K1 (ty:=ty) r i hd e⟩
 ·rename_i t tx s x m;obtain rfl:=z m;obtain⟨c,d,rfl,i,hd⟩:=two rfl;rw [o]at e;exact⟨_,rfl,fC (ty:=ty) r i hd e⟩
 ·rename_i t x m;obtain rfl:=q m;obtain⟨c,rfl,i⟩:=one rfl;rw [o]at e;split at e
  ·rename_i kt et hd;obtain⟨u,j,g⟩:=iR.1 e;simp only [iW]at g;obtain⟨rfl,rfl⟩:=g;exact⟨_,rfl,D7 (ty:=ty) r hd i j⟩
  ·cases e
 ·obtain⟨c,d,rfl,i,hd⟩:=two rfl;obtain⟨u,j,g⟩:=iR.1 e;simp only [iW]at g;obtain⟨rfl,rfl⟩:=g;exact⟨_,rfl,fb r i hd j⟩
 ·obtain⟨c,d,rfl,i,hd⟩:=two rfl;obtain⟨u,j,g⟩:=iR.1 e;simp only [iW]at g;obtain⟨rfl,rfl⟩:=g;exact⟨_,rfl,fB r i hd j⟩
 ·cases e
end
section
variable {P:Program} {E:KE} {B:xi} {G:Gh} {h:KH} {w:World} {fr:KFr} {a:Act}
def Yw {α:Type} {x:Option α} {h h':KH} {v:α} (e:(x.map fun v=>(v,h))=some (v,h')):x=some v∧h'=h:=by
 obtain⟨u,c,b⟩:=iR.1 e;simp only [iW]at b;obtain⟨rfl,rfl⟩:=b;exact⟨c,rfl⟩
def sr {x:Option KH} {h':KH} {u v:KV} (e:(x.map fun h=>(u,h))=some (v,h')):x=some h'∧v=u:=by
 obtain⟨q,c,b⟩:=iR.1 e;simp only [iW]at b;obtain⟨rfl,rfl⟩:=b;exact⟨c,rfl⟩
def Gx (b:wY h=true):h.next+1<65000:=by simpa [wY,xn] using b
def U8 {x v:KV} {c:Value} (g:KR G x c) (e:Wr x=some v):KR G v c∧(∀b:Bool,c≠ .pointer none)∧c≠ .nilIface∧c≠ .nilFunc∧(∀n f q,c≠ .func (.method n) f q):=by
 unfold Wr at e;split at e
 ·cases e;cases g with|ptr i=>exact⟨.ptr i,by simp,by simp,by simp,by simp⟩
 ·cases e;cases g with|func a b c d=>exact⟨.func a b c d,by simp,by simp,by simp,by simp⟩
 ·cases e;cases g with|yield a=>exact⟨.yield a,by simp,by simp,by simp,by simp⟩
 ·cases e;cases g with|iface a=>exact⟨.iface a,by simp,by simp,by simp,by simp⟩
 ·cases e
def Pn (T:E.Ok P) (r:KRel B G h w) (l:∀x,KR G (zp E.ng fr.l x) (a.eval x)) (o:Oper) {v:KV} {h':KH} (e:yl E fr.l h o.op=some (v,h')):uU P B G w a o v h':=by
 have A:=T.T;have M:=T.Z
 cases g:o.op with
 |move x=>rw [g]at e; simp only [yl,iL,iW]at e; obtain⟨rfl,rfl⟩:=e; exact .val r (l x) (by simp only [execOp,g])
 |assign x=>rw [g]at e; simp only [yl,iL,iW]at e; obtain⟨rfl,rfl⟩:=e; exact .val r (l x) (by simp only [execOp,g])
 | pick c x y=>
  rw [g]at e; simp only [yl]at e;split at e
  ·rename_i t ht;cases e;have C:=l c;rw [ht]at C;generalize I:a.eval c=cc at C;cases C;refine⟨if t then a.eval x else a.eval y,w,G, .inl ?_, .refl _, ?_,r⟩
   ·simp only [execOp,g,I,asBool,iB,iC,iA]
   ·cases t
    ·exact l y
    ·exact l x
  ·cases e
 | alloc t=>
  rw [g]at e; simp only [yl]at e;split at e
  ·rename_i C;obtain⟨Q,L,W⟩:=C;cases e;rw [A]at Q; rw [M]at L ⊢;obtain⟨i,z,K,hzz,Z⟩:=Zf Q;have hk:=Bg (P:=P) r (Gx W) (t:=t) (v:=kz P t) (x:=z) (by rw [Z]; exact KR.of z) L;obtain⟨c,w',G',k1,U⟩:=hk;refine uU.of (s:=Instr.alloc t true (.tuple #[])) ⟨c,w',G', ?_,U⟩ (by simp only [execOp,g]);simp only [Instr.alloc,iB,zU K hzz,iA];simpa only [iB] using k1
  ·cases e
 | box t x=>
  rw [g]at e; simp only [yl]at e;split at e
  ·rename_i C;obtain⟨L,W⟩:=C;cases e;exact uU.of (s:=Instr.box t (a.eval x)) (Bg (P:=P) r (Gx W) (l x) L) (by simp only [execOp,g])
  ·cases e
 | build t ps=>
  rw [g]at e; simp only [yl]at e;obtain⟨p,rfl⟩:=Yw e; clear e; have e:=p; clear p;rw [A,M]at e;obtain⟨p1,p2⟩:=Ye (E:=E) l ps;exact uU.of (Ph r p1 p2 e) (by simp only [execOp,g])
 | buildSlice t len ps=>
  rw [g]at e; simp only [yl]at e;rw [A,M]at e;obtain⟨p1,p2⟩:=Ye (E:=E) l ps;exact uU.of (WT r p1 p2 e) (by simp only [execOp,g])
 | load t x=>
  rw [g]at e; simp only [yl]at e;split at e
  ·rename_i C;obtain⟨p,rfl⟩:=Yw e; clear e; have e:=p; clear p;rw [A]at e C;exact uU.of (fA r C.1 C.2 (l x) e) (by simp only [execOp,g])
  ·cases e
 | store t x y=>
  rw [g]at e; simp only [yl]at e;split at e
  ·rename_i C;obtain⟨p,rfl⟩:=sr e; clear e; have e:=p; clear p;rw [A]at e C;exact uU.ofU (Pj r C (l x) (l y) e) (by simp only [execOp,g])
  ·cases e
 | nilCheck x=>
  rw [g]at e; simp only [yl]at e;obtain⟨p,rfl⟩:=Yw e; clear e; have e:=p; clear p;obtain⟨k1,U,k3,k4,k5⟩:=U8 (l x) e;refine .val r k1 ?_;simp only [execOp,g];generalize a.eval x=c at U k3 k4 k5;split
  ·exact absurd rfl (U true)
  ·exact absurd rfl k3
  ·exact absurd rfl k4
  ·exact absurd rfl (k5 _ _ _)
  ·rfl
 | binOp op t x y u=>
  rw [g]at e; simp only [yl]at e;split at e
  ·rename_i C;rw [A]at e C;split at e
   ·rename_i q hq;cases e;obtain⟨c,N,O⟩:=lw (P:=P) (w:=w) op C (l x) (l y) hq x y;exact uU.of (.same r N O) (by simp only [execOp,g])
   ·obtain⟨p,rfl⟩:=Yw e; clear e; have e:=p; clear p;obtain⟨c,N,O⟩:=eV (P:=P) (w:=w) op (l x) (l y) e x y;exact uU.of (.same r N O) (by simp only [execOp,g])
  ·cases e
 | unOp op t x=>
  rw [g]at e; simp only [yl]at e;obtain⟨p,rfl⟩:=Yw e; clear e; have e:=p; clear p;obtain⟨c,N,O⟩:=td (P:=P) (w:=w) (l x) e;exact uU.of (.same r N O) (by simp only [execOp,g])
 | convert s d x=>
  rw [g]at e; simp only [yl]at e;rw [A]at e;exact uU.of (eU r (l x) e) (by simp only [execOp,g])
 | makeInterface t x=>
  rw [g]at e; simp only [yl]at e;split at e
  ·rename_i C;cases e;rw [A]at C;obtain⟨i,d,K,hd,_,Y⟩:=pB C.1;refine uU.of (s:=Instr.makeInterface t (a.eval x)) (.same r (c:= .iface t (a.eval x)) ?_ (.iface (l x))) (by simp only [execOp,g]);have:∀ms,d≠ .interface ms:=fun ms hh=>by subst hh; exact C.2 (by rw [Y]; rfl)
   cases d<;>first|(exact absurd rfl (this _))|simp [Instr.makeInterface,run_underlying hd]
  ·cases e
 | makeFunc fn first captured=>
  rw [g]at e; simp only [yl,iL,iW]at e; obtain⟨rfl,rfl⟩:=e;have Q:=dq (E:=E) l first
  have L:=dq (E:=E) l captured;exact uU.of (s:=Instr.makeFunc fn (first.map a.eval) (captured.map a.eval)) (.same r rfl (.func Q.1 Q.2 L.1 L.2)) (by simp only [execOp,g])
 | makeMap t S=>
  rw [g]at e; simp only [yl]at e;split at e
  ·rename_i X;have ho:=YZ (E:=E) l S
   have fin:(S.map (zp E.ng fr.l)).isSome=true->(∃k el,(ti P t).d= .map k el)∧∃k n,S.map (zp E.ng fr.l)=some (.int k n):=by
    intro hs
    cases S with
    |none=>cases hs
    | some x=>
     simp only at e;split at e
     ·rename_i k el j n hd hx;rw [A]at hd;exact⟨⟨_,_,hd⟩,j,n,by rw [Option.map_some,hx]⟩
     ·cases e
   have hv:v= .map h.next∧h'=h.push (.map [] 0):=by
    cases S with
    |none=>simp only [iL,iW]at e; exact⟨e.1.symm,e.2.symm⟩
    | some x=>
     simp only at e;split at e
     ·simp only [iL,iW]at e; exact⟨e.1.symm,e.2.symm⟩
     ·cases e
   obtain⟨rfl,rfl⟩:=hv;exact uU.of (Qx r X ho fin) (by simp only [execOp,g])
  ·cases e
 | makeSlice t n c=>
  rw [g]at e; simp only [yl]at e;rw [A,M]at e;exact uU.of (fe r (l n) (l c) e) (by simp only [execOp,g])
 | slice t x lo K mx=>
  rw [g]at e; simp only [yl]at e;obtain⟨p,rfl⟩:=Yw e; clear e; have e:=p; clear p;rw [A]at e;exact uU.of (GS r (l x) (YZ (E:=E) l lo) (YZ (E:=E) l K) (YZ (E:=E) l mx) e) (by simp only [execOp,g])
 | fieldAddr s x f=>
  rw [g]at e; simp only [yl]at e;obtain⟨p,rfl⟩:=Yw e; clear e; have e:=p; clear p;rw [A]at e;exact uU.of (Uk r (l x) e) (by simp only [execOp,g])
 | field s x f=>
  rw [g]at e; simp only [yl]at e;obtain⟨p,rfl⟩:=Yw e; clear e; have e:=p; clear p;rw [A]at e;exact uU.of (DQ r (l x) e) (by simp only [execOp,g])
 | indexAddr t x i=>
  rw [g]at e; simp only [yl]at e;split at e
  ·rename_i k n K;obtain⟨p,rfl⟩:=Yw e; clear e; have e:=p; clear p;rw [A]at e;have F:=l i;rw [K]at F;generalize I:a.eval i=cc at F;cases F;exact uU.of (s:=Instr.indexAt t (a.eval x) (.int k n)) (Uy r (l x) e) (by rw [<-I]; simp only [execOp,g])
  ·cases e
 | index t x i=>
  rw [g]at e; simp only [yl]at e;split at e
  ·rename_i k n K;obtain⟨p,rfl⟩:=Yw e; clear e; have e:=p; clear p;have F:=l i;rw [K]at F;generalize I:a.eval i=cc at F;cases F;unfold JP at e;split at e
   ·rename_i v' e2;cases e;rw [A]at e2;exact uU.of (s:=Instr.index t (a.eval x) (.int k n)) (G8 r (l x) e2) (by rw [<-I]; simp only [execOp,g])
   ·rw [A,T.A]at e;exact uU.of (s:=Instr.index t (a.eval x) (.int k n)) (B4 r (l x) e) (by rw [<-I]; simp only [execOp,g])
  ·cases e
 | entry it=>
  rw [g]at e; simp only [yl]at e;obtain⟨p,rfl⟩:=Yw e; clear e; have e:=p; clear p;exact uU.of (GW r (l it) e) (by simp only [execOp,g])
 | lookup t m k ok=>
  rw [g]at e; simp only [yl]at e;obtain⟨p,rfl⟩:=Yw e; clear e; have e:=p; clear p;rw [A,M]at e;exact uU.of (GO r (l m) (l k) e) (by simp only [execOp,g])
 | mapUpdate t m k x=>
  rw [g]at e; simp only [yl]at e;obtain⟨p,rfl⟩:=sr e; clear e; have e:=p; clear p;rw [A]at e;exact uU.ofU (Zn r (l m) (l k) (l x) e) (by simp only [execOp,g])
 | insert t m k x=>
  rw [g]at e; simp only [yl]at e;obtain⟨p,rfl⟩:=sr e; clear e; have e:=p; clear p;rw [A]at e;exact uU.ofU (Zn r (l m) (l k) (l x) e) (by simp only [execOp,g])
 | mapEntry t m k=>
  rw [g]at e; simp only [yl]at e;rw [A,M]at e;exact uU.of (Jc r (l m) (l k) e) (by simp only [execOp,g])
 | entryStore t m s x=>
  rw [g]at e; simp only [yl]at e;obtain⟨p,rfl⟩:=sr e; clear e; have e:=p; clear p;exact uU.ofU (WX (t:=t) r (l m) (l s) (l x) e) (by simp only [execOp,g])
 | range t x=>
  rw [g]at e; simp only [yl]at e;rw [A]at e;exact uU.of (eY r (l x) e) (by simp only [execOp,g])
 | next it s=>
  rw [g]at e; simp only [yl]at e;exact uU.of (eQ (t:=o.type) r (l it) e) (by simp only [execOp,g])
 | typeAssert x xt asT ok=>
  rw [g]at e; simp only [yl]at e;obtain⟨p,rfl⟩:=Yw e; clear e; have e:=p; clear p;rw [A,M]at e;exact uU.of (KT (xt:=xt) r (l x) e) (by simp only [execOp,g])
 | extract x i=>
  rw [g]at e; simp only [yl]at e;obtain⟨p,rfl⟩:=Yw e; clear e; have e:=p; clear p;exact uU.of (QD r (l x) e) (by simp only [execOp,g])
 | call c=>
  rw [g]at e;obtain⟨callee,H,tys⟩:=c
  cases callee with
  | builtin b=>
   simp only [yl]at e;obtain⟨s,s1,s2⟩:=Q3 (P:=P) T r (ty:=o.type) (cs:=H.map fun| .const _=>true|_=>false) (dq (E:=E) l H) e;refine uU.of s2 ?_
   have:execOp a.eval o=builtin b tys o.type (H.map fun| .const _=>true|_=>false) (H.map a.eval):=by
    simp only [execOp,g,resolve]; rfl
   rw [this]; exact s1
  |_=>simp [yl]at e
 |_=>rw [g]at e; simp [yl]at e
end
end Go.K
end
