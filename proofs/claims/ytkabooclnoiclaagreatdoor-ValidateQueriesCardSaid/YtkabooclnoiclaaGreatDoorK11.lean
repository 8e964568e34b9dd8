/- Closed runs. No condition. -/
import Derived.Test.YtkabooclnoiclaaGreatDoorK10
set_option linter.all false
noncomputable section
namespace Go.K
open Go.Abs
def KV.onYield (v:KV) (f:Bool->QR) (t:QR):QR:=v.onBool f (v.onTuple (fun a=>List.rec (motive:=fun _=>QR) t (fun _ _ _=>none) a) none)
inductive QG where
 |no
 |on (g:Sl->KV) (want:Bool)
def QG.run (g:QG) (l:Sl) (yes no:QR):QR:=QG.rec (motive:=fun _=>QR) yes (fun g a=>(g l).onYield (fun b=>zq b (zq a yes no) (zq a no yes)) no) g
def QG.ok (q:QG) (ops:Array Oper) (o:Oper):Prop:=∀l yes no r,q.run l yes no=some r->(wR ops l o=some true∧yes=some r)∨(wR ops l o=some false∧no=some r)
inductive QT where
 |no
 |to (u:(KV->(KV->QR)->QR)->Sl->(Sl->QR)->QR)
def QT.put (t:QT) (v:KV) (l:Sl) (K:Sl->QR):QR:=QT.rec (motive:=fun _=>QR) (K l) (fun u=>u (fun _ k=>k v) l K) t
def QT.ok (t:QT) (n:Nat) (dst:Option Tmp):Prop:=∀l a v K,t.put v l K=K ((KFr.mk n l a).put dst v).l
inductive QI where
 |op (g:QG) (o:QOp) (t:QT)
 |dfr (g:QG) (f:QO) (xs:List QO) (t:QT)
inductive QCk where
 |mk (g:QG) (o:QOp) (d:Option (Sl->KV))
inductive QS where
 |mk (i:QI) (c:List QCk)
inductive Kn where
 |mk (l:List QS)
 |bad
abbrev QKS:=Sl->List KD->KH->QR
def zbY (f:KV) (xs:List QO) (l:Sl) (K:KD->QR):QR:=f.onFunc (fun fn a c=>Fn.onFunc fn fun f=>evs l xs fun b=>XT a b fun all=>K (.fn (.func f) c all)) (fun _=>none) none
def QI.run (i:QI) (e:QE) (l:Sl) (a:List KD) (h:KH) (K:QKS):QR:=QI.rec (motive:=fun _=>QR)
 (fun g o t=>g.run l (o.run e l h fun v h=>t.put v l fun l=>K l a h) (t.put (.tuple []) l fun l=>K l a h))
 (fun g f b t=>g.run l (zbY (f.ev l) b l fun d=>t.put (.tuple []) l fun l=>K l (d::a) h) (t.put (.tuple []) l fun l=>K l a h)) i
def QCk.run (c:QCk) (e:QE) (l:Sl) (h:KH) (K:QR):QR:=QCk.rec (motive:=fun _=>QR)
 (fun g o d=>g.run l (o.run e l h fun v _=>Option.rec (motive:=fun _=>QR) K (fun s=>zq (uK (s l) v) K none) d) (Option.rec (motive:=fun _=>QR) K (fun s=>zq (uK (s l) (.tuple [])) K none) d)) c
def DH (c:List QCk) (e:QE) (l:Sl) (h:KH) (K:QR):QR:=List.rec (motive:=fun _=>QR) K (fun c _ a=>c.run e l h a) c
def W6 (s:List QS) (e:QE) (l:Sl) (a:List KD) (h:KH) (K:QKS):QR:=List.rec (motive:=fun _=>Sl->List KD->KH->QR) (fun l a h=>K l a h)
 (fun s _ b l a h=>QS.rec (motive:=fun _=>QR) (fun i c=>i.run e l a h fun l a h=>DH c e l h (b l a h)) s) s l a h
def Kn.run (q:Kn) (e:QE) (l:Sl) (a:List KD) (h:KH) (K:QKS):QR:=Kn.rec (motive:=fun _=>QR) (fun s=>W6 s e l a h K) none q
section
variable {S:Type}
def cG (ops:Array Oper) (o:Oper) (K:QG->S) (F:S):S:=match o.guard with
 |none=>K .no
 | some (j,a)=>match(ops[j]?).bind (·.dst)with
  |some d=>Sel.rec (motive:=fun _=>S) (fun g=>bfc a fun a=>K (.on g a)) (dS d)
  |none=>F
def ot (ops:Array Oper) (o:Oper) (K:QG->S) (F:S):cG ops o K F=F∨∃q:QG,q.ok ops o∧cG ops o K F=K q:=by
 unfold cG;split
 ·rename_i c;exact .inr ⟨.no,fun l yes no r e=> .inl ⟨by simp only [wR,c],e⟩,rfl⟩
 ·rename_i j a c;split
  ·rename_i d hd;refine .inr ⟨.on (fun l=>wD l d) a, ?_,by simp only [BK,Qz]⟩;intro l yes no r e;simp only [wR,c,We,hd];simp only [QG.run,KV.onYield]at e;cases f:wD l d<;>rw [f]at e<;>first|(cases e; done)|skip
   ·rename_i b;simp only [KV.onBool,zo]at e;cases b<;>cases a<;>simp_all
   ·rename_i g
    cases g with
    |nil=>exact .inr ⟨rfl,e⟩
    |cons _ _=>cases e
  ·exact .inl rfl
def cT (n:Nat) (dst:Option Tmp):QT:=match dst with
 |none=> .no
 |some d=>zq (Nat.blt d n) (Upd.rec (motive:=fun _=>QT) (fun u=> .to u) (dU d)) .no
def zak (n:Nat) (dst:Option Tmp):(cT n dst).ok n dst:=by
 intro l a v K;unfold cT
 cases dst with
 |none=>rfl
 | some d=>
  simp only [zo,lL,KFr.put]
  cases b:Nat.blt d n with
  |true=>rfl
  |false=>rfl
def Pv (E:KE) (M:TypeId->String->Option FuncId) (cl:Call) (K:QOp->S) (F:S):S:=match cl.callee with
 | .builtin _=>F
 | .value f=>match f with
  | .func f=>nfc f fun f=>cOs E.ng cl.args.toList fun a=>K (.callS f a)
  |f=>cO E.ng f fun f=>cOs E.ng cl.args.toList fun a=>K (.callV f a)
 | .invoke r name=>cO E.ng r fun r=>cOs E.ng cl.args.toList fun a=>K (.inv r (fun t=>M t name) a)
def KG (E:KE) (M:TypeId->String->Option FuncId) (o:Op) (K:QOp->S) (F:S):S:=match o with
 | .call cl=>match cl.callee with
  | .builtin _=>cOp E o K F
  |_=>Pv E M cl K F
 |o=>cOp E o K F
def cI (E:KE) (M:TypeId->String->Option FuncId) (out:Bool) (n:Nat) (ops:Array Oper) (o:Oper) (K:QI->S) (F:S):S:=
 cG ops o (fun g=>QT.rec (motive:=fun _=>S->(QT->S)->S) (fun _ k=>k .no) (fun u _ k=>k (.to u)) (cT n o.dst) F fun t=>match o.op with
  | .defer cl=>match out,cl.callee with
   |true, .value f=>cO E.ng f fun f=>cOs E.ng cl.args.toList fun a=>K (.dfr g f a t)
   |_,_=>F
  |op=>KG E M op (fun q=>K (.op g q t)) F) F
end
structure QX where
 E:KE
 S:KF_
 C:FuncId->Option (List KV->KH->Option (KV×KH))
structure QX.Ok (P:Program) (X:QX):Prop where
 E:X.E.Ok P
 S:X.S.Ok P
 C:∀ {f g},X.C f=some g->(∃fn c,X.S.F f=some fn∧fn.body=some c)∧∀ {args h v h'},g args h=some (v,h')->KCall P f args h v h'
 mixed:P.follows .mixedOrders=true
def rG (P:Program) (ng:Nat) (id:Nat) (args:List KV) (h:KH) (v:KV) (h':KH):Prop:=
 ∀(rd:Option Nat) (o:Oper) (l:Sl) (cl:Call) (fo:Operand),o.op= .call cl->cl.callee= .value fo->zp ng l fo= .yield id->cl.args.toList.map (zp ng l)=args->KDo P ng rd o l h v h'
structure QE.ok (P:Program) (X:QX) (e:QE):Prop where
 call:∀f args h (K:QK) r,e.call f args h K=some r->∃v h',(∃fn c,X.S.F f=some fn∧fn.body=some c)∧KCall P f args h v h'∧K v h'=some r
 round:∀id args h (K:QK) r,e.round id args h K=some r->∃v h',rG P X.E.ng id args h v h'∧K v h'=some r
 calld:∀f args h (K:KH->QR) r,e.calld f args h K=some r->∃h',(∃fn c,X.S.F f=some fn∧fn.body=some c)∧QJ P f args h h'∧K h'=some r
def QOp.okD (P:Program) (X:QX) (e:QE) (rd:Option Nat) (q:QOp) (o:Oper):Prop:=
 ∀l h (K:QK) r,q.run e l h K=some r->∃v a,KDo P X.E.ng rd o l h v a∧K v a=some r
section
variable {P:Program} {X:QX} {e:QE} {S:Type} {rd:Option Nat}
def QOp.okE.D (ok:X.Ok P) {q:QOp} {o:Oper} (h:q.okE X.E o.op):q.okD P X e rd o:=by
 intro l f K r g;obtain⟨v,c,a,b⟩:=h e l f K r g;exact⟨v,c,KDo.exec ok.E a,b⟩
def fE (ok:X.Ok P) (n:e.ok P X) {o:Oper} {cl:Call} {fo:Operand} (p:o.op= .call cl) (m:cl.callee= .value fo) {f:QO} {xs:List QO} (x:∀l,f.ev l=zp X.E.ng l fo) (s:∀l,xs.map (fun q:QO=>q.ev l)=cl.args.toList.map (zp X.E.ng l)):
  (QOp.callV f xs).okD P X e rd o:=by
 intro l h K r q;have q:Dy e (f.ev l) xs l h K=some r:=q;rw [x]at q;unfold Dy at q;cases j:zp X.E.ng l fo<;>rw [j]at q<;>first|(cases q; done)|skip
 ·rename_i fn a c;cases fn<;>first|(cases q; done)|skip
  rename_i g;simp only [KV.onFunc,Fn.onFunc,pM,s,pj]at q;obtain⟨v,i,⟨fn,cd,t,w⟩,k,b⟩:=n.call _ _ _ _ _ q;refine⟨v,i,KDo.call ok.E ok.S p (by rw [m]; simp only [qL,j,List.append_assoc]) t w k,b⟩
 ·rename_i id;simp only [KV.onFunc,pM,s]at q;obtain⟨v,i,k,b⟩:=n.round _ _ _ _ _ q;exact⟨v,i,k rd o l cl fo p m j rfl,b⟩
def mZ (ok:X.Ok P) (w:e.ok P X) (cl:Call) (K:QOp->S) (F:S):Pv X.E X.S.M cl K F=F∨∃q:QOp,(∀o:Oper,o.op= .call cl->q.okD P X e rd o)∧Pv X.E X.S.M cl K F=K q:=by
 unfold Pv;split
 ·exact .inl rfl
 ·rename_i fo m;split
  ·rename_i f;obtain⟨a,j,c⟩:=US X.E.ng cl.args.toList fun a=>K (.callS f a);refine .inr ⟨.callS f a, ?_,by rw [zH,c]⟩;intro o i l h K r q;have q:(evs l a fun B=>e.call f B h K)=some r:=q;rw [pM,j]at q;obtain⟨v,n,⟨fn,cd,p,s⟩,k,b⟩:=w.call _ _ _ _ _ q;exact⟨v,n,KDo.call ok.E ok.S i (by rw [m]; simp only [qL,zp,List.append_nil,List.nil_append]) p s k,b⟩
  ·obtain⟨f,x,c⟩:=dw X.E.ng fo fun f=>cOs X.E.ng cl.args.toList fun a=>K (.callV f a);obtain⟨a,j,b⟩:=US X.E.ng cl.args.toList fun a=>K (.callV f a);exact .inr ⟨.callV f a,fun o i=>fE ok w i m x j,c.trans b⟩
 ·rename_i ro name m;obtain⟨f,x,c⟩:=dw X.E.ng ro fun f=>cOs X.E.ng cl.args.toList fun a=>K (.inv f (fun t=>X.S.M t name) a);obtain⟨a,j,b⟩:=US X.E.ng cl.args.toList fun a=>K (.inv f (fun t=>X.S.M t name) a);refine .inr ⟨.inv f (fun t=>X.S.M t name) a, ?_,c.trans b⟩;intro o i l h K r q;have q:zbp e (f.ev l) (fun t=>X.S.M t name) a l h K=some r:=q;rw [x]at q;unfold zbp at q;cases z:zp X.E.ng l ro<;>rw [z]at q<;>first|(cases q; done)|skip
  rename_i t v;simp only [KV.onIface]at q
  cases y:X.S.M t name with
  |none=>rw [y]at q; cases q
  | some g=>
   rw [y]at q;simp only [pM,j]at q;obtain⟨A,n,⟨fn,cd,p,s⟩,k,b⟩:=w.call _ _ _ _ _ q;exact⟨A,n,KDo.call ok.E ok.S i (by rw [m]; simp only [qL,z,y]) p s k,b⟩
def cX (ok:X.Ok P) (f:e.ok P X) (op:Op) (K:QOp->S) (F:S):KG X.E X.S.M op K F=F∨∃q:QOp,(∀o:Oper,o.op=op->q.okD P X e rd o)∧KG X.E X.S.M op K F=K q:=by
 have a:cOp X.E op K F=F∨∃q:QOp,(∀o:Oper,o.op=op->q.okD P X e rd o)∧cOp X.E op K F=K q:=by
  rcases QL (E:=X.E) op K F with h|⟨q,b,c⟩
  ·exact .inl h
  ·exact .inr ⟨q,fun o g=>QOp.okE.D ok (by rw [g]; exact b),c⟩
 unfold KG;split
 ·split
  ·exact a
  ·exact mZ ok f _ K F
 ·exact a
def QI.okS (P:Program) (X:QX) (e:QE) (rd:Option Nat) (n:Nat) (ops:Array Oper) (i:QI) (o:Oper):Prop:=
 ∀l b h (K:QKS) r,i.run e l b h K=some r->∃g ds' c,K g ds' c=some r∧∀j is a f,ops[j]? =some o->KO_ P rd ops is ⟨n,g,ds'⟩ c a f->KO_ P rd ops (j::is) ⟨n,l,b⟩ h a f
def kU (n:Nat) (l:Sl) (f:List KD) (dst:Option Tmp) (v:KV):(KFr.mk n l f).put dst v=⟨n,((KFr.mk n l f).put dst v).l,f⟩:=by
 have g:=pV ⟨n,l,f⟩ dst v;have h:=Qq ⟨n,l,f⟩ dst v;generalize KFr.put ⟨n,l,f⟩ dst v=fr at g h ⊢;obtain⟨a,b,c⟩:=fr;simp only at g h;subst g h;rfl
def QI.okS_op (ok:X.Ok P) {n:Nat} {ops:Array Oper} {o:Oper} {g:QG} {q:QOp} {t:QT} (z:g.ok ops o) (A:q.okD P X e rd o) (w:t.ok n o.dst):(QI.op g q t).okS P X e rd n ops o:=by
 intro l a h K r i;have i:g.run l (q.run e l h fun v h=>t.put v l fun l=>K l a h) (t.put (.tuple []) l fun l=>K l a h)=some r:=i;rcases z _ _ _ _ i with⟨m,B⟩|⟨m,s⟩
 ·obtain⟨v,x,k,p⟩:=A _ _ _ _ B;rw [w l a v]at p;refine⟨_,a,x,p,fun j is c y f b=> ?_⟩;rw [<-kU]at b;exact zdk ok.E.ng f m k b
 ·rw [w l a]at s;refine⟨_,a,h,s,fun j is c y f b=> ?_⟩;rw [<-kU]at b;exact PS f m b
end
section
variable {P:Program} {X:QX} {e:QE} {S:Type} {rd:Option Nat}
def QI.okS_dfr (ok:X.Ok P) {n:Nat} {ops:Array Oper} {o:Oper} {cl:Call} {fo:Operand} (s:o.op= .defer cl) (C:cl.callee= .value fo) {g:QG} {f:QO} {xs:List QO} {t:QT} (F:g.ok ops o) (E:∀l,f.ev l=zp X.E.ng l fo)
  (G:∀l,xs.map (fun q:QO=>q.ev l)=cl.args.toList.map (zp X.E.ng l)) (y:t.ok n o.dst):(QI.dfr g f xs t).okS P X e none n ops o:=by
 intro l i h K r v;have v:g.run l (zbY (f.ev l) xs l fun d=>t.put (.tuple []) l fun l=>K l (d::i) h) (t.put (.tuple []) l fun l=>K l i h)=some r:=v;rcases F _ _ _ _ v with⟨w,b⟩|⟨w,x⟩
 ·rw [E]at b;unfold zbY at b;cases z:zp X.E.ng l fo<;>rw [z]at b<;>first|(cases b; done)|skip
  rename_i fn a c;cases fn<;>first|(cases b; done)|skip
  rename_i A;simp only [KV.onFunc,Fn.onFunc,pM,G,pj]at b;rw [y l (.fn (.func A) c (a++cl.args.toList.map (zp X.E.ng l))::i)]at b;refine⟨_,_,h,b,fun j is m B p k=> ?_⟩;rw [<-kU]at k;exact lY (fr:=⟨n,l,i⟩) ok.E p s w C z k
 ·rw [y l i]at x;refine⟨_,i,h,x,fun j is m B p k=> ?_⟩;rw [<-kU]at k;exact PS p w k
def zdf (ok:X.Ok P) (w:e.ok P X) (n:Nat) (ops:Array Oper) (o:Oper) (K:QI->S) (F:S):cI X.E X.S.M rd.isNone n ops o K F=F∨∃i:QI,i.okS P X e rd n ops o∧cI X.E X.S.M rd.isNone n ops o K F=K i:=by
 unfold cI
 generalize s:(fun g=>QT.rec (motive:=fun _=>S->(QT->S)->S) (fun _ k=>k .no) (fun u _ k=>k (.to u)) (cT n o.dst) F fun t=>(match o.op with
  | .defer cl=>match rd.isNone,cl.callee with
   |true, .value f=>cO X.E.ng f fun f=>cOs X.E.ng cl.args.toList fun a=>K (.dfr g f a t)
   |_,_=>F
  |op=>KG X.E X.S.M op (fun q=>K (.op g q t)) F))=B
 rcases ot ops o B F with h|⟨g,l,h⟩
 ·exact .inl h
 ·rw [h,<-s];have j:=zak n o.dst;have m:∀(t:QT) (k:QT->S),QT.rec (motive:=fun _=>S->(QT->S)->S) (fun _ k=>k .no) (fun u _ k=>k (.to u)) t F k=k t:=fun t k=>by cases t<;>rfl
  simp only [m];generalize cT n o.dst=t at j;split
  ·rename_i cl b;split
   ·rename_i f c v
    cases rd with
    |some _=>cases c
    | none=>
     obtain⟨q,x,p⟩:=dw X.E.ng f fun f=>cOs X.E.ng cl.args.toList fun a=>K (.dfr g f a t);obtain⟨a,z,r⟩:=US X.E.ng cl.args.toList fun a=>K (.dfr g q a t);exact .inr ⟨.dfr g q a t,QI.okS_dfr ok b v l x z j,p.trans r⟩
   ·exact .inl rfl
  ·rcases cX (rd:=rd) ok w o.op (fun q=>K (.op g q t)) F with h|⟨q,y,h⟩
   ·exact .inl h
   ·exact .inr ⟨.op g q t,QI.okS_op ok l (y o rfl) j,h⟩
def sJ (E:KE) (M:TypeId->String->Option FuncId) (out:Bool) (n:Nat) (ops:Array Oper) (l:List Oper) (K:List QS->S) (F:S):S:=
 List.rec (motive:=fun _=>(List QS->S)->S) (fun K=>K []) (fun o _ a K=>cI E M out n ops o (fun i=>a fun r=>K (.mk i []::r)) F) l K
def zc7 (P:Program) (X:QX) (e:QE) (rd:Option Nat) (n:Nat) (ops:Array Oper) (s:List QS) (os:List Oper):Prop:=
 ∀l a h (K:QKS) r,W6 s e l a h K=some r->∃c ds' b,K c ds' b=some r∧∀is:List Nat,is.map (fun i=>ops[i]?)=os.map some->KO_ P rd ops is ⟨n,l,a⟩ h ⟨n,c,ds'⟩ b
def PM (ok:X.Ok P) (k:e.ok P X) (n:Nat) (ops:Array Oper) (F:S):∀(os:List Oper) (K:List QS->S),sJ X.E X.S.M rd.isNone n ops os K F=F∨∃s,zc7 P X e rd n ops s os∧sJ X.E X.S.M rd.isNone n ops os K F=K s
 | [],K=> .inr ⟨[],fun l b h K r q=>⟨l,b,h,q,fun is g=>by
   have:is= []:=by cases is with|nil=>rfl|cons _ _=>simp at g
   subst this; exact zb6⟩,rfl⟩
 | o ::os,K=>by
  rcases zdf (rd:=rd) ok k n ops o (fun i=>sJ X.E X.S.M rd.isNone n ops os (fun r=>K (.mk i []::r)) F) F with h|⟨i,g,h⟩
  ·exact .inl h
  ·rcases PM ok k n ops F os (fun r=>K (.mk i []::r))with c|⟨s,t,c⟩
   ·exact .inl (h.trans c)
   ·refine .inr ⟨.mk i []::s, ?_,h.trans c⟩;intro l b h K r q;have q:i.run e l b h (fun l b h=>W6 s e l b h K)=some r:=q;obtain⟨A,m,c,y,v⟩:=g _ _ _ _ _ q;obtain⟨x,f,p,z,w⟩:=t _ _ _ _ _ y;refine⟨x,f,p,z,fun is a=> ?_⟩
    cases is with
    |nil=>simp at a
    | cons j is=>
     simp only [List.map_cons,List.cons.injEq]at a;exact v j is _ _ a.1 (w is a.2)
def cCk (E:KE) (ops:Array Oper) (j:Nat) (K:QCk->S) (F:S):S:=match ops[j]? with
 |none=>F
 | some o=>zq (Z3 E.T o.op) (cG ops o (fun g=>cOp E o.op (fun q=>match o.dst with
  |none=>K (.mk g q none)
  |some d=>Sel.rec (motive:=fun _=>S) (fun s=>K (.mk g q (some s))) (dS d)) F) F) F
def QCk.ok (P:Program) (X:QX) (e:QE) (rd:Option Nat) (n:Nat) (ops:Array Oper) (c:QCk) (j:Nat):Prop:=∀l (a:List KD) h K r,c.run e l h K=some r->qJ P X.E.ng rd ops j ⟨n,l,a⟩ h∧K=some r
def zbz (ok:X.Ok P) (n:Nat) (ops:Array Oper) (j:Nat) (K:QCk->S) (F:S):cCk X.E ops j K F=F∨∃c:QCk,c.ok P X e rd n ops j∧cCk X.E ops j K F=K c:=by
 unfold cCk
 cases t:ops[j]? with
 |none=>exact .inl rfl
 | some o=>
  simp only [zo]
  by_cases w:Z3 X.E.T o.op=true
  ·rw [iI w];have hd:zQ ops j=o.dst:=by simp [zQ,t]
   rcases ot ops o (fun g=>cOp X.E o.op (fun q=>match o.dst with
    |none=>K (.mk g q none)
    |some d=>Sel.rec (motive:=fun _=>S) (fun s=>K (.mk g q (some s))) (dS d)) F) F with h|⟨g,y,h⟩
   ·exact .inl h
   ·rw [h]
    rcases QL (E:=X.E) o.op (fun q=>match o.dst with
     |none=>K (.mk g q none)
     |some d=>Sel.rec (motive:=fun _=>S) (fun s=>K (.mk g q (some s))) (dS d)) F with p|⟨q,A,p⟩
    ·exact .inl p
    ·rw [p];right
     have run:∀(dd:Option (Sl->KV)),(∀l (a:List KD) h K r,(QCk.mk g q dd).run e l h K=some r->(∃v,yl X.E l h o.op=some (v,h)∧wR ops l o=some true∧(Option.rec (motive:=fun _=>QR) K (fun s=>zq (uK (s l) v) K none) dd)=some r) ∨
       (wR ops l o=some false∧(Option.rec (motive:=fun _=>QR) K (fun s=>zq (uK (s l) (.tuple [])) K none) dd)=some r)):=by
      intro dd l a h K r m;rcases y _ _ _ _ m with⟨f,B⟩|⟨f,z⟩
      ·obtain⟨v,C,i,b⟩:=A _ _ _ _ _ B;have:=Yc w i;subst this;exact .inl ⟨v,i,f,b⟩
      ·exact .inr ⟨f,z⟩
     have still:∀l a h v,yl X.E l h o.op=some (v,h)->wR ops l o=some true->jN P X.E.ng rd ops j ⟨n,l,a⟩ h v:=by
      intro l a h v i f;unfold jN;simp only [t,f];exact KDo.exec ok.E i
     have stillN:∀l a h,wR ops l o=some false->jN P X.E.ng rd ops j ⟨n,l,a⟩ h (.tuple []):=by
      intro l a h f;unfold jN;simp only [t,f]
     cases k:o.dst with
     | none=>
      refine⟨.mk g q none, ?_,rfl⟩;intro l a h K r m;unfold qJ;rw [hd,k];rcases run none l a h K r m with⟨v,i,f,b⟩|⟨f,b⟩
      ·exact⟨⟨v,still l a h v i f⟩,b⟩
      ·exact⟨⟨_,stillN l a h f⟩,b⟩
     | some d=>
      refine⟨.mk g q (some fun l=>wD l d), ?_,by simp only [BK]⟩;intro l a h K r m;unfold qJ;rw [hd,k];rcases run _ l a h K r m with⟨v,i,f,b⟩|⟨f,b⟩
      ·simp only [zo]at b;split at b
       ·rename_i x;exact⟨by simp only; rw [br _ _ x]; exact still l a h v i f,b⟩
       ·cases b
      ·simp only [zo]at b;split at b
       ·rename_i x;exact⟨by simp only; rw [br _ _ x]; exact stillN l a h f,b⟩
       ·cases b
  ·rw [iH w]; exact .inl rfl
def YO (E:KE) (ops:Array Oper) (M:Nat) (seen:List Nat) (K:List QCk->S) (F:S):S:=
 List.rec (motive:=fun _=>(List QCk->S)->S) (fun K=>K []) (fun j _ a K=>zq (tb M j) (a K) (cCk E ops j (fun c=>a fun r=>K (c::r)) F)) seen K
def Vf (ok:X.Ok P) (n:Nat) (ops:Array Oper) (Es Bi:List Nat) (M:Nat) (F:S):∀(seen:List Nat),(∀j∈seen,(Es.contains j||Bi.contains j)=tb M j)->∀(K:List QCk->S),YO X.E ops M seen K F=F ∨
  ∃cs:List QCk,(∀l (f:List KD) h K r,DH cs e l h K=some r->pw P X.E.ng rd ops Es Bi seen ⟨n,l,f⟩ h∧K=some r)∧YO X.E ops M seen K F=K cs
 | [],_,K=> .inr ⟨[],fun l f h K r q=>⟨trivial,q⟩,rfl⟩
 | j ::seen,p,K=>by
  have v:YO X.E ops M (j::seen) K F=zq (tb M j) (YO X.E ops M seen K F) (cCk X.E ops j (fun c=>YO X.E ops M seen (fun r=>K (c::r)) F) F):=rfl;rw [v,zo,<-p j (by simp)];have g:∀j∈seen,(Es.contains j||Bi.contains j)=tb M j:=fun j w=>p j (List.mem_cons_of_mem _ w)
  by_cases i:(Es.contains j||Bi.contains j)=true
  ·rw [iI i];rcases Vf ok n ops Es Bi M F seen g K with h|⟨cs,k,m⟩
   ·exact .inl h
   ·refine .inr ⟨cs,fun l f h K r q=> ?_,m⟩;obtain⟨a,b⟩:=k l f h K r q;exact⟨⟨by rw [iI i]; trivial,a⟩,b⟩
  ·rw [iH i];rcases zbz (e:=e) (rd:=rd) ok n ops j (fun c=>YO X.E ops M seen (fun r=>K (c::r)) F) F with h|⟨c,o,h⟩
   ·exact .inl h
   ·rw [h];rcases Vf ok n ops Es Bi M F seen g (fun r=>K (c::r))with h|⟨cs,k,m⟩
    ·exact .inl h
    ·refine .inr ⟨c::cs,fun l f h K r q=> ?_,m⟩;obtain⟨s,t⟩:=o l f h _ r q;obtain⟨a,b⟩:=k l f h K r t;exact⟨⟨by rw [iH i]; exact s,a⟩,b⟩
def kN (E:KE) (M:TypeId->String->Option FuncId) (n:Nat) (ops:Array Oper) (EM LM BB:Nat) (F:S) (a:List Nat) (seen:List Nat) (K:List QS->S):S:=
 List.rec (motive:=fun _=>List Nat->(List QS->S)->S) (fun _ K=>K []) (fun i _ c seen K=>match ops[i]? with
  |none=>F
  | some o=>cG ops o (fun g=>zq (tb EM i) (KG E M o.op (fun q=>YO E ops (Nat.lor (Nat.lor EM LM) (jd BB i)) seen (fun b=>c (i::seen) fun r=>K (.mk (.op g q (cT n o.dst)) b::r)) F) F)
   (zq (tb LM i) (zq (VG o.op&&o.guard.isNone) (cOp E o.op (fun q=>YO E ops (Nat.lor (Nat.lor EM LM) (jd BB i)) seen (fun b=>c (i::seen) fun r=>K (.mk (.op g q (cT n o.dst)) b::r)) F) F) F)
   (zq (Z3 E.T o.op) (cOp E o.op (fun q=>c (i::seen) fun r=>K (.mk (.op g q (cT n o.dst)) []::r)) F) F))) F) a seen K
def YP (ok:X.Ok P) (he:e.ok P X) (n:Nat) (ops:Array Oper) (hN:ops.size<=64) (EM LM BB:Nat) (F:S):∀(a seen:List Nat),(∀j∈seen,j<ops.size)->∀(K:List QS->S),kN X.E X.S.M n ops EM LM BB F a seen K=F ∨
  ∃s:List QS,(∀l c h (K:QKS) r,W6 s e l c h K=some r->∃w h',K w c h'=some r∧kD2 P X.E rd ops (p9 EM ops.size) (p9 LM ops.size) (Kp BB ops.size) a seen ⟨n,l,c⟩ h fun f t=>f=⟨n,w,c⟩∧t=h')∧kN X.E X.S.M n ops EM LM BB F a seen K=K s
 | [],seen,_,K=> .inr ⟨[],fun l c h K r q=>⟨l,h,q,rfl,rfl⟩,rfl⟩
 | i :: a,seen,z,K=>by
  have e0:kN X.E X.S.M n ops EM LM BB F (i::a) seen K=(match ops[i]? with
   |none=>F
   | some o=>cG ops o (fun g=>zq (tb EM i) (KG X.E X.S.M o.op (fun q=>YO X.E ops (Nat.lor (Nat.lor EM LM) (jd BB i)) seen (fun b=>kN X.E X.S.M n ops EM LM BB F a (i::seen) fun r=>K (.mk (.op g q (cT n o.dst)) b::r)) F) F)
    (zq (tb LM i) (zq (VG o.op&&o.guard.isNone) (cOp X.E o.op (fun q=>YO X.E ops (Nat.lor (Nat.lor EM LM) (jd BB i)) seen (fun b=>kN X.E X.S.M n ops EM LM BB F a (i::seen) fun r=>K (.mk (.op g q (cT n o.dst)) b::r)) F) F) F)
    (zq (Z3 X.E.T o.op) (cOp X.E o.op (fun q=>kN X.E X.S.M n ops EM LM BB F a (i::seen) fun r=>K (.mk (.op g q (cT n o.dst)) []::r)) F) F))) F):=rfl
  rw [e0];clear e0
  cases C:ops[i]? with
  |none=>exact .inl rfl
  | some o =>
   simp only;have hd:zQ ops i=o.dst:=by simp [zQ,C]
   have W:=zak n o.dst
   have y:i<ops.size:=by
    rcases iS i ops.size with h|h
    ·exact h
    ·rw [Array.getElem?_eq_none h]at C; cases C
   have L:∀j∈i::seen,j<ops.size:=fun j T=>by
    rcases List.mem_cons.1 T with rfl|T
    ·exact y
    ·exact z j T
   have hM:∀j∈seen,((p9 EM ops.size++p9 LM ops.size).contains j||((Kp BB ops.size).getD i []).contains j)=tb (Nat.lor (Nat.lor EM LM) (jd BB i)) j:=fun j T=>by
    have H:=z j T;rw [fp H,l8 y H,kL,kL (Nat.lor EM LM),kL EM LM,Ze];simp [show j<64 by omega]
   generalize hB:(fun g=>zq (tb EM i) (KG X.E X.S.M o.op (fun q=>YO X.E ops (Nat.lor (Nat.lor EM LM) (jd BB i)) seen (fun b=>kN X.E X.S.M n ops EM LM BB F a (i::seen) fun r=>K (.mk (.op g q (cT n o.dst)) b::r)) F) F)
    (zq (tb LM i) (zq (VG o.op&&o.guard.isNone) (cOp X.E o.op (fun q=>YO X.E ops (Nat.lor (Nat.lor EM LM) (jd BB i)) seen (fun b=>kN X.E X.S.M n ops EM LM BB F a (i::seen) fun r=>K (.mk (.op g q (cT n o.dst)) b::r)) F) F) F)
    (zq (Z3 X.E.T o.op) (cOp X.E o.op (fun q=>kN X.E X.S.M n ops EM LM BB F a (i::seen) fun r=>K (.mk (.op g q (cT n o.dst)) []::r)) F) F)))=Bd
   rcases ot ops o Bd F with h|⟨g,hg,h⟩
   ·exact .inl h
   ·rw [h, <-hB];simp only [zo]
    by_cases I:tb EM i=true
    ·rw [iI I];rcases cX (e:=e) (rd:=rd) ok he o.op (fun q=>YO X.E ops (Nat.lor (Nat.lor EM LM) (jd BB i)) seen (fun b=>kN X.E X.S.M n ops EM LM BB F a (i::seen) fun r=>K (.mk (.op g q (cT n o.dst)) b::r)) F) F with h|⟨q,U,h⟩
     ·exact .inl h
     ·rw [h];rcases Vf (e:=e) (rd:=rd) ok n ops (p9 EM ops.size++p9 LM ops.size) ((Kp BB ops.size).getD i []) (Nat.lor (Nat.lor EM LM) (jd BB i)) F seen hM (fun b=>kN X.E X.S.M n ops EM LM BB F a (i::seen) fun r=>K (.mk (.op g q (cT n o.dst)) b::r))with h|⟨b,B,h⟩
      ·exact .inl h
      ·rw [h];rcases YP ok he n ops hN EM LM BB F a (i::seen) L (fun r=>K (.mk (.op g q (cT n o.dst)) b::r))with h|⟨s,z,h⟩
       ·exact .inl h
       ·refine .inr ⟨.mk (.op g q (cT n o.dst)) b::s, ?_,h⟩;intro l c h K r qq;have qq:g.run l (q.run e l h fun v h=>(cT n o.dst).put v l fun l=>DH b e l h (W6 s e l c h K)) ((cT n o.dst).put (.tuple []) l fun l=>DH b e l h (W6 s e l c h K))=some r:=qq;simp only [kD2];rcases hg _ _ _ _ qq with⟨x,Y⟩|⟨x,M⟩
        ·obtain⟨v,H,k,p⟩:=U o rfl _ _ _ _ Y;rw [W l c v]at p;obtain⟨G,N⟩:=B _ c _ _ _ p;obtain⟨w,h',A,m⟩:=z _ _ _ _ _ N;refine⟨w,h',A, ?_⟩;rw [iI ((qQ y).trans I)];unfold oY;simp only [C,x];rw [<-kU]at G m;exact⟨v,H,k,G,m⟩
        ·rw [W l c]at M;obtain⟨G,N⟩:=B _ c _ _ _ M;obtain⟨w,h',A,m⟩:=z _ _ _ _ _ N;refine⟨w,h',A, ?_⟩;rw [iI ((qQ y).trans I)];unfold oY;simp only [C,x];rw [<-kU]at G m;exact⟨G,m⟩
    ·rw [iH I]
     by_cases O:tb LM i=true
     ·rw [iI O]
      by_cases Q:(VG o.op&&o.guard.isNone)=true
      ·rw [iI Q];simp only [iF,Option.isNone_iff_eq_none]at Q;rcases QL (E:=X.E) o.op (fun q=>YO X.E ops (Nat.lor (Nat.lor EM LM) (jd BB i)) seen (fun b=>kN X.E X.S.M n ops EM LM BB F a (i::seen) fun r=>K (.mk (.op g q (cT n o.dst)) b::r)) F) F with h|⟨q,U,h⟩
       ·exact .inl h
       ·rw [h];rcases Vf (e:=e) (rd:=rd) ok n ops (p9 EM ops.size++p9 LM ops.size) ((Kp BB ops.size).getD i []) (Nat.lor (Nat.lor EM LM) (jd BB i)) F seen hM (fun b=>kN X.E X.S.M n ops EM LM BB F a (i::seen) fun r=>K (.mk (.op g q (cT n o.dst)) b::r))with h|⟨b,B,h⟩
        ·exact .inl h
        ·rw [h];rcases YP ok he n ops hN EM LM BB F a (i::seen) L (fun r=>K (.mk (.op g q (cT n o.dst)) b::r))with h|⟨s,z,h⟩
         ·exact .inl h
         ·refine .inr ⟨.mk (.op g q (cT n o.dst)) b::s, ?_,h⟩;intro l c h K r qq;have qq:g.run l (q.run e l h fun v h=>(cT n o.dst).put v l fun l=>DH b e l h (W6 s e l c h K)) ((cT n o.dst).put (.tuple []) l fun l=>DH b e l h (W6 s e l c h K))=some r:=qq;simp only [kD2];rcases hg _ _ _ _ qq with⟨x,Y⟩|⟨x,M⟩
          ·obtain⟨v,H,Z,p⟩:=U _ _ _ _ _ Y;obtain⟨tm,cells,k1,m,rfl,rfl⟩:=Gu Q.1 Z;have p:((cT n o.dst).put (tm.at h.next) l fun l=>DH b e l (h.push (.cells false cells)) (W6 s e l c (h.push (.cells false cells)) K))=some r:=p;rw [W l c]at p;obtain⟨G,N⟩:=B _ c _ _ _ p;obtain⟨w,h',A,k3⟩:=z _ _ _ _ _ N;refine⟨w,h',A, ?_⟩;rw [iH (fun h=>I ((qQ y).symm.trans h)),iI ((qQ y).trans O)];rw [<-kU]at G k3;exact⟨o,tm,cells,C,k1,m,G,k3⟩
          ·rw [wR,Q.2]at x; cases x
      ·rw [iH Q]; exact .inl rfl
     ·rw [iH O]
      by_cases hp:Z3 X.E.T o.op=true
      ·rw [iI hp];rcases QL (E:=X.E) o.op (fun q=>kN X.E X.S.M n ops EM LM BB F a (i::seen) fun r=>K (.mk (.op g q (cT n o.dst)) []::r)) F with h|⟨q,U,h⟩
       ·exact .inl h
       ·rw [h];rcases YP ok he n ops hN EM LM BB F a (i::seen) L (fun r=>K (.mk (.op g q (cT n o.dst)) []::r))with h|⟨s,z,h⟩
        ·exact .inl h
        ·refine .inr ⟨.mk (.op g q (cT n o.dst)) []::s, ?_,h⟩;intro l c h K r qq;have qq:g.run l (q.run e l h fun v h=>(cT n o.dst).put v l fun l=>W6 s e l c h K) ((cT n o.dst).put (.tuple []) l fun l=>W6 s e l c h K)=some r:=qq;simp only [kD2];rcases hg _ _ _ _ qq with⟨x,Y⟩|⟨x,M⟩
         ·obtain⟨v,H,Z,p⟩:=U _ _ _ _ _ Y;have:=Yc hp Z;subst this;have p:((cT n o.dst).put v l fun l=>W6 s e l c H K)=some r:=p;rw [W l c v]at p;obtain⟨w,h',A,m⟩:=z _ _ _ _ _ p;refine⟨w,h',A, ?_⟩;rw [iH (fun h=>I ((qQ y).symm.trans h)),iH (fun h=>O ((qQ y).symm.trans h))];rw [<-kU,<-hd]at m;refine⟨v, ?_,m⟩;unfold jN;simp only [C,x];exact KDo.exec ok.E Z
         ·rw [W l c]at M;obtain⟨w,h',A,m⟩:=z _ _ _ _ _ M;refine⟨w,h',A, ?_⟩;rw [iH (fun h=>I ((qQ y).symm.trans h)),iH (fun h=>O ((qQ y).symm.trans h))];rw [<-kU,<-hd]at m;refine⟨_, ?_,m⟩;unfold jN;simp only [C,x]
      ·rw [iH hp]; exact .inl rfl
def tH (E:KE) (M:TypeId->String->Option FuncId) (out:Bool) (n:Nat) (ops:Array Oper) (draw:Bool):Kn:=
 zq draw (cM E.T ops n (fun a EM LM BB=>kN E M n ops EM LM BB .bad a [] .mk) .bad) (sJ E M out n ops ops.toList .mk .bad)
def fV (ops:Array Oper):(List.range ops.size).map (fun i=>ops[i]?)=ops.toList.map some:=by
 apply List.ext_getElem?;intro i;simp only [iV,List.getElem?_range',Array.getElem?_toList]
 by_cases a:i<ops.size
 ·simp [a]
 ·simp [a]
def rT (ok:X.Ok P) (p:e.ok P X) {n:Nat} {id:Nat} {ops:Array Oper} {draw:Bool} {l:Sl} {f:List KD} {h:KH} {K:QKS} {r:KV×KH} (q:(tH X.E X.S.M rd.isNone n ops draw).run e l f h K=some r):
  ∃c ds' h',K c ds' h'=some r∧KC P rd (.region id ops draw) ⟨n,l,f⟩ h .normal ⟨n,c,ds'⟩ h':=by
 unfold tH at q;rw [zo]at q
 cases draw with
 | true=>
  simp only [if_true]at q;rcases nI X.E.T ops n (fun a EM LM BB=>kN X.E X.S.M n ops EM LM BB .bad a [] .mk) Kn.bad with j|⟨a,EM,LM,BB,o,j⟩
  ·rw [j]at q; cases q
  ·rw [j]at q;rcases YP (e:=e) (rd:=rd) ok p n ops o.2 EM LM BB Kn.bad a [] (by simp) Kn.mk with b|⟨s,m,b⟩
   ·rw [b]at q; cases q
   ·rw [b]at q;obtain⟨c,h',g,k⟩:=m _ _ _ _ _ q;exact⟨c,f,h',g,nB (fr:=⟨n,l,f⟩) ok.E ok.mixed o.1 (fun i t=>(jD.1 t).1) k⟩
 | false=>
  simp only [iT,if_false]at q;rcases PM (e:=e) (rd:=rd) ok p n ops Kn.bad ops.toList Kn.mk with b|⟨s,m,b⟩
  ·rw [b]at q; cases q
  ·rw [b]at q;obtain⟨c,ds',h',g,k⟩:=m _ _ _ _ _ q;exact⟨c,ds',h',g,fP (k _ (fV ops))⟩
end
end Go.K
end
