/- Abstract values. No condition. -/
import Derived.Test.YtkabooclnoiclaaGreatDoorA26
set_option linter.all false
section
namespace Go.Abs
open Go.RowKit (Below)
def ZD:Op->Bool
 | .alloc .. | .box .. | .store .. | .makeSlice .. | .makeMap .. | .mapUpdate .. | .range .. | .next .. => false
 | .call ⟨.builtin b,_,_⟩=>match b with| .len| .min=>true|_=>false
 | .call .. => false
 |_=>true
def GB {P:Program} {gl:Nat->List V} {fr:AFr} {st st':St} {o:Op} {v:V} (a:ZD o=true) (h:xc P gl fr st o=some (v,st')):st'=st:=by
 cases o with
 |alloc=>cases a
 |box=>cases a
 |store=>cases a
 |makeSlice=>cases a
 |makeMap=>cases a
 |mapUpdate=>cases a
 |range=>cases a
 |next=>cases a
 | call c=>
  obtain⟨cal,g,tys⟩:=c
  cases cal with
  | builtin b=>
   cases b<;>simp only [ZD,iT]at a
   all_goals
    simp only [xc]at h;rcases pz h with⟨_,_,_,j,_⟩|h
    ·cases j
    simp only [qN]at h
    repeat' (first|(cases h; done)|(injection h with h; injection h with i f; exact f.symm)|(rename_i e _ _ _; cases e; done)|(rename_i e _ _; cases e; done)|split at h)
    all_goals (rename_i e _ _ ; cases e)
  |_=>cases a
 | _=>
  simp only [xc]at h
  repeat' (first|(cases h; done)|(injection h with h; injection h with i f; exact f.symm)|split at h)
section
variable {P:Program} {T:TypeId->TI} {gl:Nat->List V} {ops:Array Oper} {E:List Nat} {B:List (List Nat)} {K:AFr->St->Prop}
def aDC (P:Program) (gl:Nat->List V) (ops:Array Oper) (E:List Nat) (B:List (List Nat)) (a seen:List Nat) (x:Cfg) (K:AFr->St->Prop):Prop:=aD P gl ops E B a seen x.1 x.2 K
def atI {R:Type} (ops:Array Oper) (i:Nat) (F:R) (K:Oper->R):R:=match ops.toList[i]? with|some o=>K o|none=>F
def Qr (i:Nat):ops.toList[i]? =ops[i]? :=Array.getElem?_toList
def gB (ops:Array Oper) (o:Oper) (n:Nat) (l:List (Nat×V)):Option Bool:=match o.guard with
 |none=>some true
 | some (j,a)=>match uM ops ⟨n,l⟩ j with
  |some (some b)=>some (bif b then a else not a)
  |some none=>some false
  |none=>none
def W7 {R:Type} (T:TypeId->TI) (gl:Nat->List V) (ops:Array Oper) (E:List Nat) (F:R) (K:List (Nat×V)->R):List Nat->Nat->List (Nat×V)->St->R
 | [],n,l,a=>K l
 | i ::r,n,l,a=>atI ops i F fun o=>bif (not (E.contains i))&&ZD o.op then
   (match gB ops o n l with
    | some true=>(match vP T gl ⟨n,l⟩ a o.op with
     |some (v,_)=>v.fc fun c=>Wj n l o.dst c fun b=>W7 T gl ops E F K r n b a
     |none=>F)
    |some false=>Wj n l o.dst (.tuple []) fun b=>W7 T gl ops E F K r n b a
    |none=>F)
  else F
def pn {o:Oper} {n:Nat} {l:List (Nat×V)} {i:Nat} {st:St} (c:ops.toList[i]? =some o):
  (∀v,gB ops o n l=some true->xc P gl ⟨n,l⟩ st o.op=some (v,st)->jI P gl ops i ⟨n,l⟩ st v)∧(gB ops o n l=some false->jI P gl ops i ⟨n,l⟩ st (.tuple [])):=by
 rw [Qr]at c;unfold gB jI;rw [c];simp only
 cases m:o.guard with
 |none=>exact⟨fun v _ h=>h,fun h=>by cases h⟩
 | some g=>
  obtain⟨j,a⟩:=g;simp only
  cases p:uM ops ⟨n,l⟩ j with
  |none=>exact⟨fun v h=>by(cases h),fun h=>by(cases h)⟩
  | some b=>
   cases b with
   |none=>exact⟨fun v h=>by simp at h,fun _=>⟨fun h=>(by cases h),fun _=>by first|rfl|trivial⟩⟩
   | some b=>
    simp only [iL];have key:(bif b then a else !a)=true↔b=a:=by cases b<;>cases a<;>simp
    have key2:(bif b then a else !a)=false↔b≠a:=by cases b<;>cases a<;>simp
    exact⟨fun v h f=>⟨fun _=>f,fun k=>absurd (key.1 h) k⟩,fun h=>⟨fun e=>absurd e (key2.1 h),fun _=>by first|rfl|trivial⟩⟩
def Qm (n:Nat) (l:List (Nat×V)) (d:Option Tmp) (v:V):(⟨n,l⟩:AFr).put d v=⟨n,((⟨n,l⟩:AFr).put d v).l⟩:=by
 cases d with
 |none=>rfl
 |some d=>simp only [AFr.put]; split<;>rfl
def Xm {i:Nat} {o:Oper} (a:ops.toList[i]? =some o):zQ ops i=o.dst:=by
 rw [Qr]at a; unfold zQ; rw [a]; rfl
def Yg (g:T=ti P):∀(os:List Nat) (a seen:List Nat) (n:Nat) (l c:List (Nat×V)) (st:St),W7 T gl ops E none some os n l st=some c ->
  aD P gl ops E B a (os.reverse++seen) ⟨n,c⟩ st K->aD P gl ops E B (os++a) seen ⟨n,l⟩ st K
 | [],a,seen,n,l,c,st,h,k=>by simp only [W7]at h; cases h; exact k
 | i ::r,a,seen,n,l,c,st,h,k=>by
  simp only [W7,atI]at h;split at h
  ·rename_i o f
   cases e:(!(E.contains i))&&ZD o.op with
   |false=>rw [e]at h; simp at h
   | true=>
    rw [e]at h;simp only [cond_true]at h;simp only [iF,Bool.not_eq_true']at e;have b:r.reverse++(i::seen)=(i::r).reverse++seen:=O2;simp only [List.cons_append,aD];rw [iH (by rw [e.1]; exact Bool.false_ne_true)];split at h
    ·rename_i m;split at h
     ·rename_i v q j;rw [V.fc_eq,qG]at h;rw [g,jq]at j;have p:=GB e.2 j;subst p;refine⟨v,(pn f).1 v m j, ?_⟩;rw [Xm f,Qm];exact Yg g r a (i::seen) n _ c _ h (by rw [b]; exact k)
     ·cases h
    ·rename_i m;rw [qG]at h;refine⟨_,(pn f).2 m, ?_⟩;rw [Xm f,Qm];exact Yg g r a (i::seen) n _ c _ h (by rw [b]; exact k)
    ·cases h
  ·cases h
def ze3 (T:TypeId->TI) (gl:Nat->List V) (ops:Array Oper) (E:List Nat) (os:List Nat) (x:Cfg):Option Cfg:=match x with
 |(⟨n,l⟩,a)=>W7 T gl ops E none (fun b=>some (⟨n,b⟩,a)) os n l a
def zbJ (T:TypeId->TI) (gl:Nat->List V) (ops:Array Oper) (E:List Nat) (os:List Nat) (x:Cfg):Cfg:=match x with
 |(⟨n,l⟩,a)=>W7 T gl ops E ((⟨0,[]⟩,⟨[],[]⟩):Cfg) (fun b=>(⟨n,b⟩,a)) os n l a
def zbi (T:TypeId->TI) (gl:Nat->List V) (ops:Array Oper) (E:List Nat) (os:List Nat) (x:Cfg):Bool:=match x with
 |(⟨n,l⟩,a)=>W7 T gl ops E false (fun _=>true) os n l a
def Um {R:Type} (F:R) (K:List (Nat×V)->R):∀(os:List Nat) (n:Nat) (l:List (Nat×V)) (st:St),W7 T gl ops E F K os n l st=(match W7 T gl ops E none some os n l st with|some a=>K a|none=>F)
 | [],n,l,st=>rfl
 | i ::r,n,l,st=>by
  simp only [W7,atI]
  cases ops.toList[i]? with
  |none=>rfl
  | some o=>
   simp only
   cases(!(E.contains i))&&ZD o.op with
   |false=>rfl
   | true=>
    simp only [cond_true]
    cases gB ops o n l with
    |none=>rfl
    | some b=>
     cases b with
     | true=>
      simp only
      cases vP T gl ⟨n,l⟩ st o.op with
      |none=>rfl
      |some y=>obtain⟨v,c⟩:=y; simp only [V.fc_eq,qG]; exact Um F K r n _ st
     |false=>simp only [qG]; exact Um F K r n _ st
def zcp (f:T=ti P) {a seen:List Nat} {x:Cfg} (os:List Nat) (b:zbi T gl ops E os x=true) (h:aDC P gl ops E B a (os.reverse++seen) (zbJ T gl ops E os x) K):aDC P gl ops E B (os++a) seen x K:=by
 obtain⟨⟨n,l⟩,e⟩:=x;simp only [zbi,zbJ]at b h;rw [Um]at b h
 cases c:W7 T gl ops E none some os n l e with
 |none=>rw [c]at b; cases b
 | some g=>
  rw [c]at h;exact Yg f os a seen n l g e c h
def Yr:List (Nat×Option V×V)->Prop
 | []=>True
 |(_,q,v)::r=>q=some v∧Yr r
def WG:List (Nat×Option V×V)->Nat->Option (Option V×V)
 | [],_=>none
 |(j,q,v)::r,i=>bif Nat.beq j i then some (q,v)else WG r i
def Kz:∀(fx:List (Nat×Option V×V)) (i:Nat) (q:Option V) (v:V),Yr fx->WG fx i=some (q,v)->q=some v
 | [],i,q,v,_,h=>by cases h
 | (j,f,g)::r,i,q,v,b,h=>by
  simp only [WG]at h
  cases a:Nat.beq j i with
  |true=>rw [a]at h; simp only [cond_true]at h; cases h; exact b.1
  |false=>rw [a]at h; exact Kz r i q v b.2 h
def hQ (T:TypeId->TI) (gl:Nat->List V) (ops:Array Oper) (E Bi:List Nat):List Nat->Nat->List (Nat×V)->St->List (Option (V×St))
 | [],_,_,_=> []
 | j::r,n,l,a=>bif E.contains j||Bi.contains j then hQ T gl ops E Bi r n l a else
  atI ops j [none] fun o=>match o.dst,gB ops o n l with
   |some _,some true=>vP T gl ⟨n,l⟩ a o.op::hQ T gl ops E Bi r n l a
   |some _,some false=>some (.tuple [],a)::hQ T gl ops E Bi r n l a
   |_,_=> [none]
def fm (T:TypeId->TI) (gl:Nat->List V) (ops:Array Oper) (E Bi:List Nat) (fx:List (Nat×Option V×V)):List Nat->Nat->List (Nat×V)->St->List (Option (V×St))
 | [],_,_,_=> []
 | j::r,n,l,a=>bif E.contains j||Bi.contains j then fm T gl ops E Bi fx r n l a else
  atI ops j [] fun o=>match o.dst,gB ops o n l with
   |some d,some true=>(match WG fx j with|some (q,_)=>kH q a|none=>some (yG l d,a))::fm T gl ops E Bi fx r n l a
   |some d,some false=>some (yG l d,a)::fm T gl ops E Bi fx r n l a
   |_,_=> []
def D2 (ops:Array Oper) (E Bi:List Nat) (fx:List (Nat×Option V×V)):List Nat->Nat->List (Nat×V)->List V
 | [],_,_=> []
 | j::r,n,l=>bif E.contains j||Bi.contains j then D2 ops E Bi fx r n l else
  atI ops j [] fun o=>match o.dst,WG fx j with
   |some d,some _=>yG l d::D2 ops E Bi fx r n l
   |_,_=>D2 ops E Bi fx r n l
def Dc (ops:Array Oper) (E Bi:List Nat) (fx:List (Nat×Option V×V)):List Nat->Nat->List (Nat×V)->List V
 | [],_,_=> []
 | j::r,n,l=>bif E.contains j||Bi.contains j then Dc ops E Bi fx r n l else
  atI ops j [] fun o=>match o.dst,WG fx j with
   |some _,some (_,v)=>(match gB ops o n l with|some true=>v|_=> .tuple [])::Dc ops E Bi fx r n l
   |_,_=>Dc ops E Bi fx r n l
def dg (g:T=ti P) {Bi:List Nat} {fx:List (Nat×Option V×V)} (h:Yr fx):∀(seen:List Nat) (n:Nat) (l:List (Nat×V)) (st:St),hQ T gl ops E Bi seen n l st=fm T gl ops E Bi fx seen n l st->D2 ops E Bi fx seen n l=Dc ops E Bi fx seen n l ->
  qE P gl ops E Bi seen ⟨n,l⟩ st
 | [],n,l,st,_,_=>trivial
 | j :: r,n,l,st,a,c=>by
  simp only [hQ,fm,D2,Dc]at a c;simp only [qE]
  cases s:E.contains j||Bi.contains j with
  | true=>
   rw [s]at a c;simp only [cond_true]at a c;exact⟨trivial,dg g h r n l st a c⟩
  | false=>
   rw [s]at a c;simp only [cond_false,atI]at a c;rw [iH O2]
   cases m:ops.toList[j]? with
   |none=>rw [m]at a; simp at a
   | some o=>
    rw [m]at a c;simp only at a c;have hd:=Xm m
    cases f:o.dst with
    |none=>rw [f]at a; simp at a
    | some d=>
     rw [f]at a c;have still:=pn (P:=P) (gl:=gl) (n:=n) (l:=l) (st:=st) m
     cases i:gB ops o n l with
     |none=>rw [i]at a; simp at a
     | some b=>
      rw [i]at a c
      cases b with
      | true=>
       simp only at a c;injection a with a k
       cases e:WG fx j with
       | none=>
        rw [e]at a c;simp only at a c;refine⟨?_,dg g h r n l st k c⟩;unfold u5; rw [hd,f];exact still.1 _ i (by rw [<-jq,<-g]; exact a)
       | some qv=>
        obtain⟨q,v⟩:=qv;rw [e]at a c;simp only at a c;injection c with c p;refine⟨?_,dg g h r n l st k p⟩;unfold u5; rw [hd,f];have t:=Kz fx j q v h e;subst t;simp only [c];exact still.1 _ i (by rw [<-jq,<-g]; exact a)
      | false=>
       simp only at a c;injection a with a k;injection a with a; injection a with a _
       have p:D2 ops E Bi fx r n l=Dc ops E Bi fx r n l:=by
        cases e:WG fx j with
        |none=>rw [e]at c; exact c
        |some qv=>rw [e]at c; simp only at c; injection c
       refine⟨?_,dg g h r n l st k p⟩;unfold u5; rw [hd,f];simp only [<-a];exact still.2 i
def yM:Yr []:=trivial
def zK (j:Nat) {q:Option V} {v:V} {r:List (Nat×Option V×V)} (h:q=some v) (t:Yr r):Yr ((j,q,v)::r):=⟨h,t⟩
def Qy (T:TypeId->TI) (gl:Nat->List V) (ops:Array Oper) (i:Nat) (x:Cfg):Option (V×St):=match x with
 | (⟨n,l⟩,a)=>atI ops i none fun o=>match gB ops o n l with
  |some true=>vP T gl ⟨n,l⟩ a o.op
  |_=>none
def GT (ops:Array Oper) (E:List Nat) (i:Nat):Bool:=atI ops i false fun o=>(not (E.contains i))&&ZD o.op
def za7 (j:T=ti P) {i:Nat} {c seen:List Nat} {x:Cfg} {q:Option V} {v:V} (k:q=some v) (e:GT ops E i=true) (a:Qy T gl ops i x=kH q x.2)
  (h:aDC P gl ops E B c (i::seen) (kY x (yw ops i) v) K):aDC P gl ops E B (i::c) seen x K:=by
 obtain⟨⟨n,l⟩,m⟩:=x;subst k;rw [Xb]at h;simp only [Qy,GT,atI,kH]at a e
 cases f:ops.toList[i]? with
 |none=>rw [f]at e; cases e
 | some o=>
  rw [f]at a e;simp only [iF,Bool.not_eq_true']at a e;simp only [aDC,aD];rw [iH (by rw [e.1]; exact Bool.false_ne_true)]
  cases g:gB ops o n l with
  |none=>rw [g]at a; cases a
  | some b=>
   rw [g]at a
   cases b with
   |false=>cases a
   | true=>
    simp only at a;rw [j,jq]at a;refine⟨v,(pn f).1 v g a, ?_⟩;rw [Xm f];simp only [yw,f]at h;exact h
def stX (T:TypeId->TI) (gl:Nat->List V) (ops:Array Oper) (E:List Nat) (B:List (List Nat)) (i:Nat) (seen:List Nat) (x:Cfg):List (Option (V×St)):=match x with
 |(⟨n,l⟩,a)=>hQ T gl ops E (B.getD i []) seen n l a
def stY (T:TypeId->TI) (gl:Nat->List V) (ops:Array Oper) (E:List Nat) (B:List (List Nat)) (fx:List (Nat×Option V×V)) (i:Nat) (seen:List Nat) (x:Cfg):List (Option (V×St)):=match x with
 |(⟨n,l⟩,a)=>fm T gl ops E (B.getD i []) fx seen n l a
def svX (ops:Array Oper) (E:List Nat) (B:List (List Nat)) (fx:List (Nat×Option V×V)) (i:Nat) (seen:List Nat) (x:Cfg):List V:=match x with
 |(⟨n,l⟩,_)=>D2 ops E (B.getD i []) fx seen n l
def svY (ops:Array Oper) (E:List Nat) (B:List (List Nat)) (fx:List (Nat×Option V×V)) (i:Nat) (seen:List Nat) (x:Cfg):List V:=match x with
 |(⟨n,l⟩,_)=>Dc ops E (B.getD i []) fx seen n l
def ZK (c:T=ti P) {fx:List (Nat×Option V×V)} (e:Yr fx) {i:Nat} {seen:List Nat} {x:Cfg} (h:(stX T gl ops E B i seen x,svX ops E B fx i seen x)=(stY T gl ops E B fx i seen x,svY ops E B fx i seen x)):
  qE P gl ops E (B.getD i []) seen x.1 x.2:=by
 obtain⟨⟨n,l⟩,f⟩:=x;injection h with a b;exact dg c e seen n l f a b
def UA (T:TypeId->TI) (gl:Nat->List V) (ops:Array Oper) (i:Nat) (x:Cfg):Cfg:=match x with
 | (⟨n,l⟩,c)=>atI ops i ((⟨0,[]⟩,⟨[],[]⟩):Cfg) fun o=>match gB ops o n l with
  |some true=>exK T gl n l c o ((⟨0,[]⟩,⟨[],[]⟩):Cfg) fun a b=>(⟨n,a⟩,b)
  |some false=>Wj n l o.dst (.tuple []) fun a=>(⟨n,a⟩,c)
  |none=>(⟨0,[]⟩,⟨[],[]⟩)
def zbg (T:TypeId->TI) (gl:Nat->List V) (ops:Array Oper) (E:List Nat) (i:Nat) (x:Cfg):Bool:=match x with
 | (⟨n,l⟩,a)=>atI ops i false fun o=>E.contains i&&(match gB ops o n l with
  |some true=>(match vP T gl ⟨n,l⟩ a o.op with|some _=>true|none=>false)
  |some false=>true
  |none=>false)
def zca {R:Type} (n:Nat) (l:List (Nat×V)) (st:St) (o:Oper) (F:R) (K:List (Nat×V)->St->R):exK T gl n l st o F K=(match vP T gl ⟨n,l⟩ st o.op with|some (v,st')=>K ((⟨n,l⟩:AFr).put o.dst v).l st'|none=>F):=by
 unfold exK
 cases vP T gl ⟨n,l⟩ st o.op with
 |none=>rfl
 | some y=>
  obtain⟨v,st'⟩:=y;simp only [V.fc_eq,qG];cases Vt o.op
  ·rfl
  ·simp only; rw [St.fc_eq]
def YR (p:T=ti P) {i:Nat} {n:Nat} {l:List (Nat×V)} {st:St} {o:Oper} {K:AFr->St->Prop} (e:ops.toList[i]? =some o):
  (gB ops o n l=some true->gI P gl o ⟨n,l⟩ st (fun v st'=>K ((⟨n,l⟩:AFr).put o.dst v) st')->Gs P gl ops i ⟨n,l⟩ st K)∧(gB ops o n l=some false->K ((⟨n,l⟩:AFr).put o.dst (.tuple [])) st->Gs P gl ops i ⟨n,l⟩ st K):=by
 rw [Qr]at e;unfold gB Gs;rw [e];simp only
 cases q:o.guard with
 |none=>exact⟨fun _ h=>h,fun h=>by cases h⟩
 | some g=>
  obtain⟨j,a⟩:=g;simp only
  cases r:uM ops ⟨n,l⟩ j with
  |none=>exact⟨fun h=>by(cases h),fun h=>by(cases h)⟩
  | some b=>
   cases b with
   |none=>exact⟨fun h=>by simp at h,fun _ c=>⟨fun h=>(by cases h),fun _=>c⟩⟩
   | some b=>
    simp only [iL];have key:(bif b then a else !a)=true↔b=a:=by cases b<;>cases a<;>simp
    have key2:(bif b then a else !a)=false↔b≠a:=by cases b<;>cases a<;>simp
    exact⟨fun h k=>⟨fun _=>k,fun m=>absurd (key.1 h) m⟩,fun h c=>⟨fun f=>absurd f (key2.1 h),fun _=>c⟩⟩
def zcq (f:T=ti P) {fx:List (Nat×Option V×V)} (m:Yr fx) {i:Nat} {e seen:List Nat} {x:Cfg} (c:zbg T gl ops E i x=true)
  (p:(stX T gl ops E B i seen (UA T gl ops i x),svX ops E B fx i seen (UA T gl ops i x))=(stY T gl ops E B fx i seen (UA T gl ops i x),svY ops E B fx i seen (UA T gl ops i x)))
  (h:aDC P gl ops E B e (i::seen) (UA T gl ops i x) K):aDC P gl ops E B (i::e) seen x K:=by
 have a:=ZK f m p;obtain⟨⟨n,l⟩,q⟩:=x;simp only [zbg,UA,atI]at c h a
 cases j:ops.toList[i]? with
 |none=>rw [j]at c; cases c
 | some o=>
  rw [j]at c h a;simp only [iF]at c h a;simp only [aDC,aD];rw [iI c.1]
  cases k:gB ops o n l with
  |none=>rw [k]at c; cases c.2
  | some b=>
   rw [k]at c h a
   cases b with
   | true=>
    simp only at c h a;rw [zca]at h a
    cases g:vP T gl ⟨n,l⟩ q o.op with
    |none=>rw [g]at c; cases c.2
    | some y=>
     obtain⟨v,r⟩:=y;rw [g]at h a;simp only at h a;rw [<-Qm]at h a;rw [f,jq]at g;exact(YR f j).1 k (ZB g ⟨a,h⟩)
   | false=>
    simp only at h a;rw [qG]at h a;rw [<-Qm]at h a;exact(YR f j).2 k ⟨a,h⟩
def zdj (p:T=ti P) {fx:List (Nat×Option V×V)} (w:Yr fx) {i:Nat} {g seen:List Nat} {x:Cfg} (t:Nat) {α:Type} (c:α->List V) {l l2 f:List α} {e e2:TypeId} {sz bytes b2:Nat} {tok2:Tok} (s:vF bytes l l2=some f)
  (q:(E.contains i&&kM T e sz bytes)=true) (v:(x.2.fams[t]?,Qy T gl ops i x)=(some l.length,vq T x.2 (.slice e sz bytes) (.slice e2 sz b2) (.sl sz (l.map c) (.fam t l.length)) (.sl sz (l2.map c) tok2)))
  (y:(stX T gl ops E B i seen (uL x (yw ops i) (.sl sz (f.map c) (.fam t f.length)) (fun st=>st.setFam t f.length)),svX ops E B fx i seen (uL x (yw ops i) (.sl sz (f.map c) (.fam t f.length)) (fun st=>st.setFam t f.length)))=(stY T gl ops E B fx i seen (uL x (yw ops i) (.sl sz (f.map c) (.fam t f.length)) (fun st=>st.setFam t f.length)),svY ops E B fx i seen (uL x (yw ops i) (.sl sz (f.map c) (.fam t f.length)) (fun st=>st.setFam t f.length))))
  (h:aDC P gl ops E B g (i::seen) (uL x (yw ops i) (.sl sz (f.map c) (.fam t f.length)) (fun st=>st.setFam t f.length)) K):aDC P gl ops E B (i::g) seen x K:=by
 have j:=ZK p w y;obtain⟨⟨n,z⟩,st⟩:=x;rw [ZP]at h j;simp only [iF]at q;injection v with k a;simp only at k a;rw [Je q.2 k s]at a;simp only [Qy,atI]at a
 cases m:ops.toList[i]? with
 |none=>rw [m]at a; cases a
 | some o=>
  rw [m]at a;simp only at a;simp only [aDC,aD];rw [iI q.1]
  cases r:gB ops o n z with
  |none=>rw [r]at a; cases a
  | some b=>
   rw [r]at a
   cases b with
   |false=>cases a
   | true=>
    simp only at a;rw [p,jq]at a;simp only [yw,m]at h j;exact(YR p m).1 r (ZB a ⟨j,h⟩)
def co (ops:Array Oper) (i:Nat) (x:Cfg):Option (FuncId×List V):=match x with
 | (⟨n,l⟩,_)=>atI ops i none fun o=>match gB ops o n l with
  |some true=>(match o.op with| .call ⟨.value f,a,_⟩=>ZJ ((⟨n,l⟩:AFr).eval f) (a.toList.map (⟨n,l⟩:AFr).eval)|_=>none)
  |_=>none
def zbE (ops:Array Oper) (E:List Nat) (i:Nat) (x:Cfg) (R:Ren) (f:FuncId) (args1:List V) (st1:St):Bool:=match co ops i x with
 |some (b,a)=>E.contains i&&Nat.beq b f&&K0 R st1 x.2 args1 a
 |none=>false
def zbr (ops:Array Oper) (i:Nat) (x:Cfg) (R:Ren) (args1:List V) (st1:St):List (List V)×List (Option Nat)×List V:=match co ops i x with
 |some (_,a)=>nw R st1 x.2 args1 a
 |none=>([],[],[])
def zeB (Q:T=ti P) {fx:List (Nat×Option V×V)} (Z:Yr fx) {i:Nat} {j seen:List Nat} {x:Cfg} (R:Ren) {f:FuncId} {args1:List V} {st1 a:St} {r:V} (S:xO P gl f args1 st1 (Out r a))
  (p:zbE ops E i x R f args1 st1=true) (q:JU R st1 args1=zbr ops i x R args1 st1)
  (hs:(stX T gl ops E B i seen (uL x (yw ops i) (V.ren R r) (fun st=>St.after R st a)),svX ops E B fx i seen (uL x (yw ops i) (V.ren R r) (fun st=>St.after R st a)))=(stY T gl ops E B fx i seen (uL x (yw ops i) (V.ren R r) (fun st=>St.after R st a)),svY ops E B fx i seen (uL x (yw ops i) (V.ren R r) (fun st=>St.after R st a))))
  (h:aDC P gl ops E B j (i::seen) (uL x (yw ops i) (V.ren R r) (fun st=>St.after R st a)) K):aDC P gl ops E B (i::j) seen x K:=by
 have m:=ZK Q Z hs;obtain⟨⟨n,A⟩,st⟩:=x;rw [ZP]at h m;simp only [zbE,zbr]at p q
 cases c:co ops i (⟨n,A⟩,st)with
 |none=>rw [c]at p; cases p
 | some y=>
  obtain⟨f',I⟩:=y;rw [c]at p q;simp only [iF,Nat.beq_eq]at p q;obtain⟨⟨Y,hF⟩,O⟩:=p;subst hF;simp only [co,atI]at c
  cases z:ops.toList[i]? with
  |none=>rw [z]at c; cases c
  | some o=>
   rw [z]at c;simp only at c
   cases F:gB ops o n A with
   |none=>rw [F]at c; cases c
   | some b=>
    rw [F]at c
    cases b with
    |false=>cases c
    | true=>
     simp only at c;simp only [yw,z]at h m;simp only [aDC,aD];rw [iI Y];refine(YR Q z).1 F ?_;split at c
     ·rename_i fo e tys C;unfold gI;rw [C];simp only;rw [c];simp only [K0,iF]at O;obtain⟨⟨U,W⟩,X⟩:=O;injection q with L q; injection q with M N;rw [Vx,Xq]at L;rw [UN,UE]at M;refine⟨S.1,fun w0 G w e l hv s=> ?_⟩;have g:=Emb.gen U L M.symm l.sc;have H:V.scs st1 args1:=V.scs_of_ren (fun k hk=>by rw [g.lenσ]; exact hk) g.fams _ W (by rw [N]; exact V.scs_shrs _ _ _ X s)
      have:=(S.frame g (by rw [N]; exact V.shrs_le _ _) H).mono (Q':=fun v t=>qE P gl ops E (B.getD i []) seen ((⟨n,A⟩:AFr).put o.dst v) t∧aD P gl ops E B j (i::seen) ((⟨n,A⟩:AFr).put o.dst v) t K) (by
       rintro r' s' ⟨r1,s1,⟨rfl,rfl⟩,rfl,rfl⟩; exact⟨m,h⟩)
      exact this.2 w0 G w e l hv s
     ·cases c
def DK (ops:Array Oper) (i:Nat) (x:Cfg):Option (Nat×V):=match x with
 | (⟨n,l⟩,_)=>atI ops i none fun o=>match o.guard with
  |some (j,_)=>(match yw ops j with|some d=>some (d,yG l d)|none=>none)
  |none=>none
def tC {i:Nat} {a seen:List Nat} {x:Cfg} (d:Nat) (b:Bool) (c:DK ops i x=some (d, .bool b))
  (h:b=true->aDC P gl ops E B (i::a) seen (kY x (some d) (.bool true)) K) (f:b=false->aDC P gl ops E B (i::a) seen (kY x (some d) (.bool false)) K):aDC P gl ops E B (i::a) seen x K:=by
 obtain⟨⟨n,l⟩,m⟩:=x
 have g:yG l d= .bool b:=by
  simp only [DK,atI]at c;split at c
  ·split at c
   ·split at c
    ·injection c with c; injection c with j k; rw [<-j]; exact k
    ·cases c
   ·cases c
  ·cases c
 have same:∀e,b=e->(⟨n,l⟩:AFr).put (some d) (.bool e)=⟨n,l⟩:=by
  rintro e rfl;simp only [AFr.put];split
  ·rw [<-g,Jx _ _ (by rw [g]; simp)]
  ·rfl
 simp only [Xb]at h f
 cases b with
 |true=>have:=h rfl; rw [same true rfl]at this; exact this
 |false=>have:=f rfl; rw [same false rfl]at this; exact this
def zcn {s0:St} {seen:List Nat} {x:Cfg} {fr':AFr} {st':St} (R:Ren) (a:wkB s0 R x.1 x.2 fr' st'=true) (b:wkL R fr' st'=wkR R x.1 x.2 fr' st'):aDC P gl ops E B [] seen x (toW s0 fr' st'):=Wk.gen R a b
def Un {s0:St} {cs:List Code} {AQ:Exit->AFr->St->Prop} {id:Nat} {fr:AFr} {st:St} (a E:List Nat) (B:List (List Nat)) (fr':AFr) (st':St) (g:P.follows .mixedOrders=true) (f:kR ops fr.n a E B=true) (b:Cl s0 (zh P gl s0 cs AQ))
  (h:aDC P gl ops E B a [] (fr,st) (toW s0 fr' st')) (e:zh P gl s0 cs AQ fr' st'):zh P gl s0 (.region id ops true::cs) AQ fr st:=by
 refine jR.of (WH.draw a E B g f (QC ?_ _ _ _ _ h));intro c j i;exact b _ _ _ _ i e
end
def zau (l:List Int):(match jp (l.map (cI .u8))with|some b=>some (V.str b)|none=>none)=some (.str (b2s l)):=by rw [Us]
attribute [irreducible] aDC
end Go.Abs
end
section
namespace Go.Abs
inductive TT where
 |leaf
 |node (l:TT) (k:Nat) (v:TI) (r:TT)
def TT.get:TT->Nat->Option TI
 | .leaf,_=>none
 | .node l k v r,t=>bif Nat.blt t k then l.get t else bif Nat.beq t k then some v else r.get t
def TT.toList:TT->List (Nat×TI)
 | .leaf=> []
 | .node l k v r=>l.toList++(k,v)::r.toList
def TT.get_mem:∀(x:TT) (t:Nat) (v:TI),x.get t=some v->(t,v)∈x.toList
 | .leaf,t,v,h=>by simp [TT.get]at h
 | .node l k u r,t,v,h=>by
  simp only [TT.get]at h
  cases b:Nat.blt t k with
  |true=>rw [b]at h; simp only [cond_true]at h; simp [TT.toList,TT.get_mem l t v h]
  | false=>
   rw [b]at h; simp only [cond_false]at h
   cases a:Nat.beq t k with
   |true=>rw [a]at h; simp only [cond_true]at h; cases h; have:=iE a; subst this; simp [TT.toList]
   |false=>rw [a]at h; simp only [cond_false]at h; simp [TT.toList,TT.get_mem r t v h]
def TT.eq_of {P:Program} {x:TT} (h:x.toList.map (fun p=>ti P p.1)=x.toList.map (·.2)):(fun t=>match x.get t with|some v=>v|none=>ti P t)=ti P:=by
 funext t
 cases a:x.get t with
 |none=>rfl
 |some v=>exact(List.map_inj_left.1 h _ (x.get_mem t v a)).symm
end Go.Abs
end
