/- Abstract values: a part. No condition beyond each statement's own. -/
import Derived.Test.YthfhicembdpjpaaGreatDoorA26
set_option linter.all false
section
namespace Go.Abs
open Go.RowKit (Below)
def Y7:Op→Bool
 | .alloc .. | .box .. | .store .. | .makeSlice .. | .makeMap .. | .mapUpdate .. | .range .. | .next .. => false
 | .call ⟨.builtin b,_,_⟩=>match b with| .len| .min=>true|_=>false
 | .call .. => false
 |_=>true
theorem Qu {P:Program} {gl:Nat→List V} {fr:AFr} {st st':St} {o:Op} {v:V} (hs:Y7 o=true) (h:xY P gl fr st o=some (v,st')):st'=st:=by
 cases o with
 |alloc=>cases hs
 |box=>cases hs
 |store=>cases hs
 |makeSlice=>cases hs
 |makeMap=>cases hs
 |mapUpdate=>cases hs
 |range=>cases hs
 |next=>cases hs
 | call c=>
  obtain⟨cal,args,tys⟩:=c
  cases cal with
  | builtin b=>
   cases b<;>simp only [Y7,Bool.false_eq_true]at hs
   all_goals
    simp only [xY]at h
    rcases YB h with⟨_,_,_,hb,_⟩|h
    ·cases hb
    simp only [dO]at h
    repeat' (first|(cases h; done)|(injection h with h; injection h with h1 h2; exact h2.symm)|(rename_i hx _ _ _; cases hx; done)|(rename_i hx _ _; cases hx; done)|split at h)
    all_goals (rename_i hx _ _ ; cases hx)
  |_=>cases hs
 | _=>
  simp only [xY]at h
  repeat' (first|(cases h; done)|(injection h with h; injection h with h1 h2; exact h2.symm)|split at h)
section
variable {P:Program} {T:TypeId→TI} {gl:Nat→List V} {ops:Array Oper} {E:List Nat} {B:List (List Nat)} {K:AFr→St→Prop}
def aDC (P:Program) (gl:Nat→List V) (ops:Array Oper) (E:List Nat) (B:List (List Nat)) (order seen:List Nat) (x:Cfg) (K:AFr→St→Prop):Prop:=aD P gl ops E B order seen x.1 x.2 K
def atI {R:Type} (ops:Array Oper) (i:Nat) (F:R) (K:Oper→R):R:=match ops.toList[i]? with|some o=>K o|none=>F
theorem QQ (i:Nat):ops.toList[i]? =ops[i]? :=Array.getElem?_toList
def ZS (ops:Array Oper) (o:Oper) (n:Nat) (l:List (Nat×V)):Option Bool:=match o.guard with
 |none=>some true
 | some (j,want)=>match ky ops ⟨n,l⟩ j with
  |some (some b)=>some (bif b then want else not want)
  |some none=>some false
  |none=>none
def Ug {R:Type} (T:TypeId→TI) (gl:Nat→List V) (ops:Array Oper) (E:List Nat) (F:R) (K:List (Nat×V)→R):List Nat→Nat→List (Nat×V)→St→R
 | [],n,l,st=>K l
 | i ::r,n,l,st=>atI ops i F fun o=>bif (not (E.contains i))&&Y7 o.op then
   (match ZS ops o n l with
    | some true=>(match jp T gl ⟨n,l⟩ st o.op with
     |some (v,_)=>v.fc fun v'=>WY n l o.dst v' fun l'=>Ug T gl ops E F K r n l' st
     |none=>F)
    |some false=>WY n l o.dst (.tuple []) fun l'=>Ug T gl ops E F K r n l' st
    |none=>F)
  else F
theorem Yt {o:Oper} {n:Nat} {l:List (Nat×V)} {i:Nat} {st:St} (ho:ops.toList[i]? =some o):
  (∀v,ZS ops o n l=some true→xY P gl ⟨n,l⟩ st o.op=some (v,st)→gk P gl ops i ⟨n,l⟩ st v)∧(ZS ops o n l=some false→gk P gl ops i ⟨n,l⟩ st (.tuple [])):=by
 rw [QQ]at ho
 unfold ZS gk
 rw [ho]
 simp only
 cases hg:o.guard with
 |none=>exact⟨fun v _ h=>h,fun h=>by cases h⟩
 | some g=>
  obtain⟨j,want⟩:=g
  simp only
  cases hy:ky ops ⟨n,l⟩ j with
  |none=>exact⟨fun v h=>by(cases h),fun h=>by(cases h)⟩
  | some b=>
   cases b with
   |none=>exact⟨fun v h=>by simp at h,fun _=>⟨fun h=>(by cases h),fun _=>by first|rfl|trivial⟩⟩
   | some b=>
    simp only [Option.some.injEq]
    have key:(bif b then want else !want)=true↔b=want:=by cases b<;>cases want<;>simp
    have key2:(bif b then want else !want)=false↔b≠want:=by cases b<;>cases want<;>simp
    exact⟨fun v h he=>⟨fun _=>he,fun hn=>absurd (key.1 h) hn⟩,fun h=>⟨fun hb=>absurd hb (key2.1 h),fun _=>by first|rfl|trivial⟩⟩
theorem U5 (n:Nat) (l:List (Nat×V)) (d:Option Tmp) (v:V):(⟨n,l⟩:AFr).put d v=⟨n,((⟨n,l⟩:AFr).put d v).l⟩:=by
 cases d with
 |none=>rfl
 |some d=>simp only [AFr.put]; split<;>rfl
theorem Wf {i:Nat} {o:Oper} (ho:ops.toList[i]? =some o):uY ops i=o.dst:=by
 rw [QQ]at ho; unfold uY; rw [ho]; rfl
theorem Xy (hT:T=ti P):∀(os:List Nat) (rest seen:List Nat) (n:Nat) (l l':List (Nat×V)) (st:St),Ug T gl ops E none some os n l st=some l' →
  aD P gl ops E B rest (os.reverse++seen) ⟨n,l'⟩ st K→aD P gl ops E B (os++rest) seen ⟨n,l⟩ st K
 | [],rest,seen,n,l,l',st,h,k=>by simp only [Ug]at h; injection h with h; subst h; exact k
 | i ::r,rest,seen,n,l,l',st,h,k=>by
  simp only [Ug,atI]at h
  split at h
  ·rename_i o ho
   cases hc:(!(E.contains i))&&Y7 o.op with
   |false=>rw [hc]at h; simp at h
   | true=>
    rw [hc]at h
    simp only [cond_true]at h
    simp only [iE,Bool.not_eq_true']at hc
    have hrev:r.reverse++(i::seen)=(i::r).reverse++seen:=O2
    simp only [List.cons_append,aD]
    rw [if_neg (by rw [hc.1]; exact Bool.false_ne_true)]
    split at h
    ·rename_i hr
     split at h
     ·rename_i v st' he
      rw [V.fc_eq,dL]at h
      rw [hT,kW]at he
      have hst:=Qu hc.2 he
      subst hst
      refine⟨v,(Yt ho).1 v hr he, ?_⟩
      rw [Wf ho,U5]
      exact Xy hT r rest (i::seen) n _ l' _ h (by rw [hrev]; exact k)
     ·cases h
    ·rename_i hr
     rw [dL]at h
     refine⟨_,(Yt ho).2 hr, ?_⟩
     rw [Wf ho,U5]
     exact Xy hT r rest (i::seen) n _ l' _ h (by rw [hrev]; exact k)
    ·cases h
  ·cases h
def PE (T:TypeId→TI) (gl:Nat→List V) (ops:Array Oper) (E:List Nat) (os:List Nat) (x:Cfg):Cfg:=match x with
 |(⟨n,l⟩,st)=>Ug T gl ops E ((⟨0,[]⟩,⟨[],[]⟩):Cfg) (fun l'=>(⟨n,l'⟩,st)) os n l st
def Pp (T:TypeId→TI) (gl:Nat→List V) (ops:Array Oper) (E:List Nat) (os:List Nat) (x:Cfg):Bool:=match x with
 |(⟨n,l⟩,st)=>Ug T gl ops E false (fun _=>true) os n l st
theorem V3 {R:Type} (F:R) (K:List (Nat×V)→R):∀(os:List Nat) (n:Nat) (l:List (Nat×V)) (st:St),Ug T gl ops E F K os n l st=(match Ug T gl ops E none some os n l st with|some l'=>K l'|none=>F)
 | [],n,l,st=>rfl
 | i ::r,n,l,st=>by
  simp only [Ug,atI]
  cases ops.toList[i]? with
  |none=>rfl
  | some o=>
   simp only
   cases(!(E.contains i))&&Y7 o.op with
   |false=>rfl
   | true=>
    simp only [cond_true]
    cases ZS ops o n l with
    |none=>rfl
    | some b=>
     cases b with
     | true=>
      simp only
      cases jp T gl ⟨n,l⟩ st o.op with
      |none=>rfl
      |some y=>obtain⟨v,st'⟩:=y; simp only [V.fc_eq,dL]; exact V3 F K r n _ st
     |false=>simp only [dL]; exact V3 F K r n _ st
theorem P7 (hT:T=ti P) {rest seen:List Nat} {x:Cfg} (os:List Nat) (hb:Pp T gl ops E os x=true) (h:aDC P gl ops E B rest (os.reverse++seen) (PE T gl ops E os x) K):aDC P gl ops E B (os++rest) seen x K:=by
 obtain⟨⟨n,l⟩,st⟩:=x
 simp only [Pp,PE]at hb h
 rw [V3]at hb h
 cases hs:Ug T gl ops E none some os n l st with
 |none=>rw [hs]at hb; cases hb
 | some l'=>
  rw [hs]at h
  exact Xy hT os rest seen n l l' st hs h
def Wz:List (Nat×Option V×V)→Prop
 | []=>True
 |(_,q,v)::r=>q=some v∧Wz r
def W9:List (Nat×Option V×V)→Nat→Option (Option V×V)
 | [],_=>none
 |(j,q,v)::r,i=>bif Nat.beq j i then some (q,v)else W9 r i
theorem Jx:∀(fx:List (Nat×Option V×V)) (i:Nat) (q:Option V) (v:V),Wz fx→W9 fx i=some (q,v)→q=some v
 | [],i,q,v,_,h=>by cases h
 | (j,q',v')::r,i,q,v,hf,h=>by
  simp only [W9]at h
  cases hb:Nat.beq j i with
  |true=>rw [hb]at h; simp only [cond_true]at h; injection h with h; injection h with h1 h2; subst h1 h2; exact hf.1
  |false=>rw [hb]at h; exact Jx r i q v hf.2 h
def BF (T:TypeId→TI) (gl:Nat→List V) (ops:Array Oper) (E Bi:List Nat):List Nat→Nat→List (Nat×V)→St→List (Option (V×St))
 | [],_,_,_=> []
 | j::r,n,l,st=>bif E.contains j||Bi.contains j then BF T gl ops E Bi r n l st else
  atI ops j [none] fun o=>match o.dst,ZS ops o n l with
   |some _,some true=>jp T gl ⟨n,l⟩ st o.op::BF T gl ops E Bi r n l st
   |some _,some false=>some (.tuple [],st)::BF T gl ops E Bi r n l st
   |_,_=> [none]
def Bl (T:TypeId→TI) (gl:Nat→List V) (ops:Array Oper) (E Bi:List Nat) (fx:List (Nat×Option V×V)):List Nat→Nat→List (Nat×V)→St→List (Option (V×St))
 | [],_,_,_=> []
 | j::r,n,l,st=>bif E.contains j||Bi.contains j then Bl T gl ops E Bi fx r n l st else
  atI ops j [] fun o=>match o.dst,ZS ops o n l with
   |some d,some true=>(match W9 fx j with|some (q,_)=>pg q st|none=>some (wh l d,st))::Bl T gl ops E Bi fx r n l st
   |some d,some false=>some (wh l d,st)::Bl T gl ops E Bi fx r n l st
   |_,_=> []
def Kf (ops:Array Oper) (E Bi:List Nat) (fx:List (Nat×Option V×V)):List Nat→Nat→List (Nat×V)→List V
 | [],_,_=> []
 | j::r,n,l=>bif E.contains j||Bi.contains j then Kf ops E Bi fx r n l else
  atI ops j [] fun o=>match o.dst,W9 fx j with
   |some d,some _=>wh l d::Kf ops E Bi fx r n l
   |_,_=>Kf ops E Bi fx r n l
def QI (ops:Array Oper) (E Bi:List Nat) (fx:List (Nat×Option V×V)):List Nat→Nat→List (Nat×V)→List V
 | [],_,_=> []
 | j::r,n,l=>bif E.contains j||Bi.contains j then QI ops E Bi fx r n l else
  atI ops j [] fun o=>match o.dst,W9 fx j with
   |some _,some (_,v)=>(match ZS ops o n l with|some true=>v|_=> .tuple [])::QI ops E Bi fx r n l
   |_,_=>QI ops E Bi fx r n l
theorem Z2 (hT:T=ti P) {Bi:List Nat} {fx:List (Nat×Option V×V)} (hf:Wz fx):∀(seen:List Nat) (n:Nat) (l:List (Nat×V)) (st:St),BF T gl ops E Bi seen n l st=Bl T gl ops E Bi fx seen n l st→Kf ops E Bi fx seen n l=QI ops E Bi fx seen n l →
  dJ P gl ops E Bi seen ⟨n,l⟩ st
 | [],n,l,st,_,_=>trivial
 | j :: r,n,l,st,h1,h2=>by
  simp only [BF,Bl,Kf,QI]at h1 h2
  simp only [dJ]
  cases hc:E.contains j||Bi.contains j with
  | true=>
   rw [hc]at h1 h2
   simp only [cond_true]at h1 h2
   exact⟨trivial,Z2 hT hf r n l st h1 h2⟩
  | false=>
   rw [hc]at h1 h2
   simp only [cond_false,atI]at h1 h2
   rw [if_neg O2]
   cases ho:ops.toList[j]? with
   |none=>rw [ho]at h1; simp at h1
   | some o=>
    rw [ho]at h1 h2
    simp only at h1 h2
    have hd:=Wf ho
    cases hdd:o.dst with
    |none=>rw [hdd]at h1; simp at h1
    | some d=>
     rw [hdd]at h1 h2
     have still:=Yt (P:=P) (gl:=gl) (n:=n) (l:=l) (st:=st) ho
     cases hr:ZS ops o n l with
     |none=>rw [hr]at h1; simp at h1
     | some b=>
      rw [hr]at h1 h2
      cases b with
      | true=>
       simp only at h1 h2
       injection h1 with h1 h3
       cases hfx:W9 fx j with
       | none=>
        rw [hfx]at h1 h2
        simp only at h1 h2
        refine⟨?_,Z2 hT hf r n l st h3 h2⟩
        unfold ba; rw [hd,hdd]
        exact still.1 _ hr (by rw [←kW,←hT]; exact h1)
       | some qv=>
        obtain⟨q,v⟩:=qv
        rw [hfx]at h1 h2
        simp only at h1 h2
        injection h2 with h2 h4
        refine⟨?_,Z2 hT hf r n l st h3 h4⟩
        unfold ba; rw [hd,hdd]
        have hq:=Jx fx j q v hf hfx
        subst hq
        simp only [h2]
        exact still.1 _ hr (by rw [←kW,←hT]; exact h1)
      | false=>
       simp only at h1 h2
       injection h1 with h1 h3
       injection h1 with h1; injection h1 with h1 _
       have h4:Kf ops E Bi fx r n l=QI ops E Bi fx r n l:=by
        cases hfx:W9 fx j with
        |none=>rw [hfx]at h2; exact h2
        |some qv=>rw [hfx]at h2; simp only at h2; injection h2
       refine⟨?_,Z2 hT hf r n l st h3 h4⟩
       unfold ba; rw [hd,hdd]
       simp only [←h1]
       exact still.2 hr
theorem yU:Wz []:=trivial
theorem zL (j:Nat) {q:Option V} {v:V} {r:List (Nat×Option V×V)} (h:q=some v) (t:Wz r):Wz ((j,q,v)::r):=⟨h,t⟩
def Bn (T:TypeId→TI) (gl:Nat→List V) (ops:Array Oper) (i:Nat) (x:Cfg):Option (V×St):=match x with
 | (⟨n,l⟩,st)=>atI ops i none fun o=>match ZS ops o n l with
  |some true=>jp T gl ⟨n,l⟩ st o.op
  |_=>none
def QD (ops:Array Oper) (E:List Nat) (i:Nat):Bool:=atI ops i false fun o=>(not (E.contains i))&&Y7 o.op
theorem Pi (hT:T=ti P) {i:Nat} {rest seen:List Nat} {x:Cfg} {q:Option V} {v:V} (hq:q=some v) (hb:QD ops E i=true) (he:Bn T gl ops i x=pg q x.2)
  (h:aDC P gl ops E B rest (i::seen) (ZN x (we ops i) v) K):aDC P gl ops E B (i::rest) seen x K:=by
 obtain⟨⟨n,l⟩,st⟩:=x
 subst hq
 rw [Vr]at h
 simp only [Bn,QD,atI,pg]at he hb
 cases ho:ops.toList[i]? with
 |none=>rw [ho]at hb; cases hb
 | some o=>
  rw [ho]at he hb
  simp only [iE,Bool.not_eq_true']at he hb
  simp only [aDC,aD]
  rw [if_neg (by rw [hb.1]; exact Bool.false_ne_true)]
  cases hr:ZS ops o n l with
  |none=>rw [hr]at he; cases he
  | some b=>
   rw [hr]at he
   cases b with
   |false=>cases he
   | true=>
    simp only at he
    rw [hT,kW]at he
    refine⟨v,(Yt ho).1 v hr he, ?_⟩
    rw [Wf ho]
    simp only [we,ho]at h
    exact h
def stX (T:TypeId→TI) (gl:Nat→List V) (ops:Array Oper) (E:List Nat) (B:List (List Nat)) (i:Nat) (seen:List Nat) (x:Cfg):List (Option (V×St)):=match x with
 |(⟨n,l⟩,st)=>BF T gl ops E (B.getD i []) seen n l st
def stY (T:TypeId→TI) (gl:Nat→List V) (ops:Array Oper) (E:List Nat) (B:List (List Nat)) (fx:List (Nat×Option V×V)) (i:Nat) (seen:List Nat) (x:Cfg):List (Option (V×St)):=match x with
 |(⟨n,l⟩,st)=>Bl T gl ops E (B.getD i []) fx seen n l st
def svX (ops:Array Oper) (E:List Nat) (B:List (List Nat)) (fx:List (Nat×Option V×V)) (i:Nat) (seen:List Nat) (x:Cfg):List V:=match x with
 |(⟨n,l⟩,_)=>Kf ops E (B.getD i []) fx seen n l
def svY (ops:Array Oper) (E:List Nat) (B:List (List Nat)) (fx:List (Nat×Option V×V)) (i:Nat) (seen:List Nat) (x:Cfg):List V:=match x with
 |(⟨n,l⟩,_)=>QI ops E (B.getD i []) fx seen n l
theorem WH (hT:T=ti P) {fx:List (Nat×Option V×V)} (hf:Wz fx) {i:Nat} {seen:List Nat} {x:Cfg} (h:(stX T gl ops E B i seen x,svX ops E B fx i seen x)=(stY T gl ops E B fx i seen x,svY ops E B fx i seen x)):
  dJ P gl ops E (B.getD i []) seen x.1 x.2:=by
 obtain⟨⟨n,l⟩,st⟩:=x
 injection h with h1 h2
 exact Z2 hT hf seen n l st h1 h2
def Ua (T:TypeId→TI) (gl:Nat→List V) (ops:Array Oper) (i:Nat) (x:Cfg):Cfg:=match x with
 | (⟨n,l⟩,st)=>atI ops i ((⟨0,[]⟩,⟨[],[]⟩):Cfg) fun o=>match ZS ops o n l with
  |some true=>exK T gl n l st o ((⟨0,[]⟩,⟨[],[]⟩):Cfg) fun l' st'=>(⟨n,l'⟩,st')
  |some false=>WY n l o.dst (.tuple []) fun l'=>(⟨n,l'⟩,st)
  |none=>(⟨0,[]⟩,⟨[],[]⟩)
def Po (T:TypeId→TI) (gl:Nat→List V) (ops:Array Oper) (E:List Nat) (i:Nat) (x:Cfg):Bool:=match x with
 | (⟨n,l⟩,st)=>atI ops i false fun o=>E.contains i&&(match ZS ops o n l with
  |some true=>(match jp T gl ⟨n,l⟩ st o.op with|some _=>true|none=>false)
  |some false=>true
  |none=>false)
theorem PS {R:Type} (n:Nat) (l:List (Nat×V)) (st:St) (o:Oper) (F:R) (K:List (Nat×V)→St→R):exK T gl n l st o F K=(match jp T gl ⟨n,l⟩ st o.op with|some (v,st')=>K ((⟨n,l⟩:AFr).put o.dst v).l st'|none=>F):=by
 unfold exK
 cases jp T gl ⟨n,l⟩ st o.op with
 |none=>rfl
 | some y=>
  obtain⟨v,st'⟩:=y
  simp only [V.fc_eq,dL]
  cases Vt o.op
  ·rfl
  ·simp only; rw [St.fc_eq]
theorem Vp (hT:T=ti P) {i:Nat} {n:Nat} {l:List (Nat×V)} {st:St} {o:Oper} {K:AFr→St→Prop} (ho:ops.toList[i]? =some o):
  (ZS ops o n l=some true→pU P gl o ⟨n,l⟩ st (fun v st'=>K ((⟨n,l⟩:AFr).put o.dst v) st')→Qo P gl ops i ⟨n,l⟩ st K)∧(ZS ops o n l=some false→K ((⟨n,l⟩:AFr).put o.dst (.tuple [])) st→Qo P gl ops i ⟨n,l⟩ st K):=by
 rw [QQ]at ho
 unfold ZS Qo
 rw [ho]
 simp only
 cases hg:o.guard with
 |none=>exact⟨fun _ h=>h,fun h=>by cases h⟩
 | some g=>
  obtain⟨j,want⟩:=g
  simp only
  cases hy:ky ops ⟨n,l⟩ j with
  |none=>exact⟨fun h=>by(cases h),fun h=>by(cases h)⟩
  | some b=>
   cases b with
   |none=>exact⟨fun h=>by simp at h,fun _ hk=>⟨fun h=>(by cases h),fun _=>hk⟩⟩
   | some b=>
    simp only [Option.some.injEq]
    have key:(bif b then want else !want)=true↔b=want:=by cases b<;>cases want<;>simp
    have key2:(bif b then want else !want)=false↔b≠want:=by cases b<;>cases want<;>simp
    exact⟨fun h he=>⟨fun _=>he,fun hn=>absurd (key.1 h) hn⟩,fun h hk=>⟨fun hb=>absurd hb (key2.1 h),fun _=>hk⟩⟩
theorem cf (hT:T=ti P) {fx:List (Nat×Option V×V)} (hf:Wz fx) {i:Nat} {rest seen:List Nat} {x:Cfg} (hb:Po T gl ops E i x=true)
  (hs:(stX T gl ops E B i seen (Ua T gl ops i x),svX ops E B fx i seen (Ua T gl ops i x))=(stY T gl ops E B fx i seen (Ua T gl ops i x),svY ops E B fx i seen (Ua T gl ops i x)))
  (h:aDC P gl ops E B rest (i::seen) (Ua T gl ops i x) K):aDC P gl ops E B (i::rest) seen x K:=by
 have hst:=WH hT hf hs
 obtain⟨⟨n,l⟩,st⟩:=x
 simp only [Po,Ua,atI]at hb h hst
 cases ho:ops.toList[i]? with
 |none=>rw [ho]at hb; cases hb
 | some o=>
  rw [ho]at hb h hst
  simp only [iE]at hb h hst
  simp only [aDC,aD]
  rw [if_pos hb.1]
  cases hr:ZS ops o n l with
  |none=>rw [hr]at hb; cases hb.2
  | some b=>
   rw [hr]at hb h hst
   cases b with
   | true=>
    simp only at hb h hst
    rw [PS]at h hst
    cases he:jp T gl ⟨n,l⟩ st o.op with
    |none=>rw [he]at hb; cases hb.2
    | some y=>
     obtain⟨v,st'⟩:=y
     rw [he]at h hst
     simp only at h hst
     rw [←U5]at h hst
     rw [hT,kW]at he
     exact(Vp hT ho).1 hr (XX he ⟨hst,h⟩)
   | false=>
    simp only at h hst
    rw [dL]at h hst
    rw [←U5]at h hst
    exact(Vp hT ho).2 hr ⟨hst,h⟩
theorem fv (hT:T=ti P) {fx:List (Nat×Option V×V)} (hf:Wz fx) {i:Nat} {rest seen:List Nat} {x:Cfg} (t:Nat) {α:Type} (c:α→List V) {l l2 l':List α} {e e2:TypeId} {sz bytes b2:Nat} {tok2:Tok} (h1:jO bytes l l2=some l')
  (hb:(E.contains i&&gC T e sz bytes)=true) (he:(x.2.fams[t]?,Bn T gl ops i x)=(some l.length,vL T x.2 (.slice e sz bytes) (.slice e2 sz b2) (.sl sz (l.map c) (.fam t l.length)) (.sl sz (l2.map c) tok2)))
  (hs:(stX T gl ops E B i seen (bg x (we ops i) (.sl sz (l'.map c) (.fam t l'.length)) (fun st=>st.setFam t l'.length)),svX ops E B fx i seen (bg x (we ops i) (.sl sz (l'.map c) (.fam t l'.length)) (fun st=>st.setFam t l'.length)))=(stY T gl ops E B fx i seen (bg x (we ops i) (.sl sz (l'.map c) (.fam t l'.length)) (fun st=>st.setFam t l'.length)),svY ops E B fx i seen (bg x (we ops i) (.sl sz (l'.map c) (.fam t l'.length)) (fun st=>st.setFam t l'.length))))
  (h:aDC P gl ops E B rest (i::seen) (bg x (we ops i) (.sl sz (l'.map c) (.fam t l'.length)) (fun st=>st.setFam t l'.length)) K):aDC P gl ops E B (i::rest) seen x K:=by
 have hst:=WH hT hf hs
 obtain⟨⟨n,l0⟩,st⟩:=x
 rw [pw]at h hst
 simp only [iE]at hb
 injection he with he1 he2
 simp only at he1 he2
 rw [Uz hb.2 he1 h1]at he2
 simp only [Bn,atI]at he2
 cases ho:ops.toList[i]? with
 |none=>rw [ho]at he2; cases he2
 | some o=>
  rw [ho]at he2
  simp only at he2
  simp only [aDC,aD]
  rw [if_pos hb.1]
  cases hr:ZS ops o n l0 with
  |none=>rw [hr]at he2; cases he2
  | some b=>
   rw [hr]at he2
   cases b with
   |false=>cases he2
   | true=>
    simp only at he2
    rw [hT,kW]at he2
    simp only [we,ho]at h hst
    exact(Vp hT ho).1 hr (XX he2 ⟨hst,h⟩)
def KT (ops:Array Oper) (i:Nat) (x:Cfg):Option (FuncId×List V):=match x with
 | (⟨n,l⟩,_)=>atI ops i none fun o=>match ZS ops o n l with
  |some true=>(match o.op with| .call ⟨.value f,args,_⟩=>Y9 ((⟨n,l⟩:AFr).eval f) (args.toList.map (⟨n,l⟩:AFr).eval)|_=>none)
  |_=>none
def Pz (ops:Array Oper) (E:List Nat) (i:Nat) (x:Cfg) (R:Ren) (f:FuncId) (args1:List V) (st1:St):Bool:=match KT ops i x with
 |some (f',args)=>E.contains i&&Nat.beq f' f&&JH R st1 x.2 args1 args
 |none=>false
def Pv (ops:Array Oper) (i:Nat) (x:Cfg) (R:Ren) (args1:List V) (st1:St):List (List V)×List (Option Nat)×List V:=match KT ops i x with
 |some (_,args)=>callR R st1 x.2 args1 args
 |none=>([],[],[])
theorem lS (hT:T=ti P) {fx:List (Nat×Option V×V)} (hf:Wz fx) {i:Nat} {rest seen:List Nat} {x:Cfg} (R:Ren) {f:FuncId} {args1:List V} {st1 st1':St} {r:V} (hc:wn P gl f args1 st1 (Out r st1'))
  (hb:Pz ops E i x R f args1 st1=true) (he:callL R st1 args1=Pv ops i x R args1 st1)
  (hs:(stX T gl ops E B i seen (bg x (we ops i) (V.ren R r) (fun st=>St.after R st st1')),svX ops E B fx i seen (bg x (we ops i) (V.ren R r) (fun st=>St.after R st st1')))=(stY T gl ops E B fx i seen (bg x (we ops i) (V.ren R r) (fun st=>St.after R st st1')),svY ops E B fx i seen (bg x (we ops i) (V.ren R r) (fun st=>St.after R st st1'))))
  (h:aDC P gl ops E B rest (i::seen) (bg x (we ops i) (V.ren R r) (fun st=>St.after R st st1')) K):aDC P gl ops E B (i::rest) seen x K:=by
 have hst:=WH hT hf hs
 obtain⟨⟨n,l0⟩,st⟩:=x
 rw [pw]at h hst
 simp only [Pz,Pv]at hb he
 cases hq:KT ops i (⟨n,l0⟩,st)with
 |none=>rw [hq]at hb; cases hb
 | some y=>
  obtain⟨f',args⟩:=y
  rw [hq]at hb he
  simp only [iE,Nat.beq_eq]at hb he
  obtain⟨⟨hE,hF⟩,hB⟩:=hb
  subst hF
  simp only [KT,atI]at hq
  cases ho:ops.toList[i]? with
  |none=>rw [ho]at hq; cases hq
  | some o=>
   rw [ho]at hq
   simp only at hq
   cases hr:ZS ops o n l0 with
   |none=>rw [hr]at hq; cases hq
   | some b=>
    rw [hr]at hq
    cases b with
    |false=>cases hq
    | true=>
     simp only at hq
     simp only [we,ho]at h hst
     simp only [aDC,aD]
     rw [if_pos hE]
     refine(Vp hT ho).1 hr ?_
     split at hq
     ·rename_i fo cargs tys hop
      unfold pU
      rw [hop]
      simp only
      rw [hq]
      simp only [JH,iE]at hB
      obtain⟨⟨h1,h4⟩,h5⟩:=hB
      injection he with h2 he; injection he with h3 h6
      rw [Vw,Wi]at h2
      rw [Uk,Uc]at h3
      refine⟨hc.1,fun w0 G w cargs hrel hv hsc=> ?_⟩
      have hemb:=Emb.gen h1 h2 h3.symm hrel.sc
      have hs1:V.scs st1 args1:=V.scs_of_ren (fun k hk=>by rw [hemb.lenσ]; exact hk) hemb.fams _ h4 (by rw [h6]; exact V.scs_shrs _ _ _ h5 hsc)
      have:=(hc.frame hemb (by rw [h6]; exact V.shrs_le _ _) hs1).mono (Q':=fun v st'=>dJ P gl ops E (B.getD i []) seen ((⟨n,l0⟩:AFr).put o.dst v) st'∧aD P gl ops E B rest (i::seen) ((⟨n,l0⟩:AFr).put o.dst v) st' K) (by
       rintro r' s' ⟨r1,s1,⟨rfl,rfl⟩,rfl,rfl⟩; exact⟨hst,h⟩)
      exact this.2 w0 G w cargs hrel hv hsc
     ·cases hq
def Q7 (ops:Array Oper) (i:Nat) (x:Cfg):Option (Nat×V):=match x with
 | (⟨n,l⟩,_)=>atI ops i none fun o=>match o.guard with
  |some (j,_)=>(match we ops j with|some d=>some (d,wh l d)|none=>none)
  |none=>none
theorem DS {i:Nat} {rest seen:List Nat} {x:Cfg} (d:Nat) (b:Bool) (he:Q7 ops i x=some (d, .bool b))
  (ht:b=true→aDC P gl ops E B (i::rest) seen (ZN x (some d) (.bool true)) K) (hf:b=false→aDC P gl ops E B (i::rest) seen (ZN x (some d) (.bool false)) K):aDC P gl ops E B (i::rest) seen x K:=by
 obtain⟨⟨n,l⟩,st⟩:=x
 have hl:wh l d= .bool b:=by
  simp only [Q7,atI]at he
  split at he
  ·split at he
   ·split at he
    ·injection he with he; injection he with h1 h2; rw [←h1]; exact h2
    ·cases he
   ·cases he
  ·cases he
 have same:∀b',b=b'→(⟨n,l⟩:AFr).put (some d) (.bool b')=⟨n,l⟩:=by
  rintro b' rfl
  simp only [AFr.put]
  split
  ·rw [←hl,UJ _ _ (by rw [hl]; simp)]
  ·rfl
 simp only [Vr]at ht hf
 cases b with
 |true=>have:=ht rfl; rw [same true rfl]at this; exact this
 |false=>have:=hf rfl; rw [same false rfl]at this; exact this
theorem P3 {s0:St} {seen:List Nat} {x:Cfg} {fr':AFr} {st':St} (R:Ren) (hb:wkB s0 R x.1 x.2 fr' st'=true) (he:wkL R fr' st'=wkR R x.1 x.2 fr' st'):aDC P gl ops E B [] seen x (toW s0 fr' st'):=Wk.gen R hb he
theorem Ji {s0:St} {cs:List Code} {AQ:Exit→AFr→St→Prop} {id:Nat} {fr:AFr} {st:St} (order E:List Nat) (B:List (List Nat)) (fr':AFr) (st':St) (hm:P.follows .mixedOrders=true) (hc:kf ops fr.n order E B=true) (hcl:Cl s0 (zE P gl s0 cs AQ))
  (h:aDC P gl ops E B order [] (fr,st) (toW s0 fr' st')) (h2:zE P gl s0 cs AQ fr' st'):zE P gl s0 (.region id ops true::cs) AQ fr st:=by
 refine gI.of (uj.draw order E B hm hc (X7 ?_ _ _ _ _ h))
 intro fr1 st1 hw
 exact hcl _ _ _ _ hw h2
end
theorem D5 (l:List Int):(match bB (l.map (cI .u8))with|some b=>some (V.str b)|none=>none)=some (.str (b2s l)):=by rw [V5]
attribute [irreducible] aDC
end Go.Abs
end
section
namespace Go.Abs
inductive TT where
 |leaf
 |node (l:TT) (k:Nat) (v:TI) (r:TT)
def TT.get:TT→Nat→Option TI
 | .leaf,_=>none
 | .node l k v r,t=>bif Nat.blt t k then l.get t else bif Nat.beq t k then some v else r.get t
def TT.toList:TT→List (Nat×TI)
 | .leaf=> []
 | .node l k v r=>l.toList++(k,v)::r.toList
theorem TT.get_mem:∀(x:TT) (t:Nat) (v:TI),x.get t=some v→(t,v)∈x.toList
 | .leaf,t,v,h=>by simp [TT.get]at h
 | .node l k u r,t,v,h=>by
  simp only [TT.get]at h
  cases h1:Nat.blt t k with
  |true=>rw [h1]at h; simp only [cond_true]at h; simp [TT.toList,TT.get_mem l t v h]
  | false=>
   rw [h1]at h; simp only [cond_false]at h
   cases h2:Nat.beq t k with
   |true=>rw [h2]at h; simp only [cond_true]at h; injection h with h; subst h; have:=Nat.eq_of_beq_eq_true h2; subst this; simp [TT.toList]
   |false=>rw [h2]at h; simp only [cond_false]at h; simp [TT.toList,TT.get_mem r t v h]
theorem TT.eq_of {P:Program} {x:TT} (h:x.toList.map (fun p=>ti P p.1)=x.toList.map (·.2)):(fun t=>match x.get t with|some v=>v|none=>ti P t)=ti P:=by
 funext t
 cases hx:x.get t with
 |none=>rfl
 |some v=>exact(List.map_inj_left.1 h _ (x.get_mem t v hx)).symm
end Go.Abs
end
