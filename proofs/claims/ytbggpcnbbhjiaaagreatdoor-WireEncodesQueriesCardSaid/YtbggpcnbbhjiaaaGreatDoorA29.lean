/- Layer: an abstract reading of values and worlds, and that the model's operations, regions, loops and calls keep to it. No condition beyond each statement's own. -/
import Derived.Test.YtbggpcnbbhjiaaaGreatDoorA28
set_option linter.unusedVariables false
set_option linter.unusedSimpArgs false
set_option linter.unnecessarySimpa false
section
namespace Go.Abs
open Go.RowKit (Below)
def Xf:Op→Bool
 | .alloc .. | .box .. | .store .. | .makeSlice .. | .makeMap .. | .mapUpdate .. | .range .. | .next .. => false
 | .call ⟨.builtin b,_,_⟩=>match b with| .len| .min=>true|_=>false
 | .call .. => false
 |_=>true
theorem Kj {P:Program} {gl:Nat→List V} {fr:AFr} {st st':St} {o:Op} {v:V} (hs:Xf o=true) (h:wj P gl fr st o=some (v,st')):st'=st:=by
 cases o with
 |alloc=>cases hs
 |box=>cases hs
 |store=>cases hs
 |makeSlice=>cases hs
 |makeMap=>cases hs
 |mapUpdate=>cases hs
 |range=>cases hs
 |next=>cases hs
 | call c=>
  obtain⟨cal,args,tys⟩:=c
  cases cal with
  | builtin b=>
   cases b<;>simp only [Xf,Bool.false_eq_true]at hs
   all_goals
    simp only [wj]at h
    rcases Yv h with⟨_,_,_,hb,_⟩|h
    ·cases hb
    simp only [dc]at h
    repeat' (first|(cases h; done)|(injection h with h; injection h with h1 h2; exact h2.symm)|(rename_i hx _ _ _; cases hx; done)|(rename_i hx _ _; cases hx; done)|split at h)
    all_goals (rename_i hx _ _ ; cases hx)
  |_=>cases hs
 | _=>
  simp only [wj]at h
  repeat' (first|(cases h; done)|(injection h with h; injection h with h1 h2; exact h2.symm)|split at h)
section
variable {P:Program} {T:TypeId→TI} {gl:Nat→List V} {ops:Array Oper} {E:List Nat} {B:List (List Nat)} {K:AFr→St→Prop}
def aDC (P:Program) (gl:Nat→List V) (ops:Array Oper) (E:List Nat) (B:List (List Nat)) (order seen:List Nat) (x:Cfg) (K:AFr→St→Prop):Prop:=aD P gl ops E B order seen x.1 x.2 K
def atI {R:Type} (ops:Array Oper) (i:Nat) (F:R) (K:Oper→R):R:=match ops.toList[i]? with|some o=>K o|none=>F
theorem BA (i:Nat):ops.toList[i]? =ops[i]? :=Array.getElem?_toList
def Zz (ops:Array Oper) (o:Oper) (n:Nat) (l:List (Nat×V)):Option Bool:=match o.guard with
 |none=>some true
 | some (j,want)=>match qX ops ⟨n,l⟩ j with
  |some (some b)=>some (bif b then want else not want)
  |some none=>some false
  |none=>none
def V0 {R:Type} (T:TypeId→TI) (gl:Nat→List V) (ops:Array Oper) (E:List Nat) (F:R) (K:List (Nat×V)→R):List Nat→Nat→List (Nat×V)→St→R
 | [],n,l,st=>K l
 | i ::r,n,l,st=>atI ops i F fun o=>bif (not (E.contains i))&&Xf o.op then
   (match Zz ops o n l with
    | some true=>(match jn T gl ⟨n,l⟩ st o.op with
     |some (v,_)=>v.fc fun v'=>Vh n l o.dst v' fun l'=>V0 T gl ops E F K r n l' st
     |none=>F)
    |some false=>Vh n l o.dst (.tuple []) fun l'=>V0 T gl ops E F K r n l' st
    |none=>F)
  else F
theorem Yl {o:Oper} {n:Nat} {l:List (Nat×V)} {i:Nat} {st:St} (ho:ops.toList[i]? =some o):
  (∀v,Zz ops o n l=some true→wj P gl ⟨n,l⟩ st o.op=some (v,st)→bO P gl ops i ⟨n,l⟩ st v)∧(Zz ops o n l=some false→bO P gl ops i ⟨n,l⟩ st (.tuple [])):=by
 rw [BA]at ho
 unfold Zz bO
 rw [ho]
 simp only
 cases hg:o.guard with
 |none=>exact⟨fun v _ h=>h,fun h=>by cases h⟩
 | some g=>
  obtain⟨j,want⟩:=g
  simp only
  cases hy:qX ops ⟨n,l⟩ j with
  |none=>exact⟨fun v h=>by(cases h),fun h=>by(cases h)⟩
  | some b=>
   cases b with
   |none=>exact⟨fun v h=>by simp at h,fun _=>⟨fun h=>(by cases h),fun _=>by first|rfl|trivial⟩⟩
   | some b=>
    simp only [Option.some.injEq]
    have key:(bif b then want else !want)=true↔b=want:=by cases b<;>cases want<;>simp
    have key2:(bif b then want else !want)=false↔b≠want:=by cases b<;>cases want<;>simp
    exact⟨fun v h he=>⟨fun _=>he,fun hn=>absurd (key.1 h) hn⟩,fun h=>⟨fun hb=>absurd hb (key2.1 h),fun _=>by first|rfl|trivial⟩⟩
theorem Ql (n:Nat) (l:List (Nat×V)) (d:Option Tmp) (v:V):(⟨n,l⟩:AFr).put d v=⟨n,((⟨n,l⟩:AFr).put d v).l⟩:=by
 cases d with
 |none=>rfl
 |some d=>simp only [AFr.put]; split<;>rfl
theorem WA {i:Nat} {o:Oper} (ho:ops.toList[i]? =some o):uJ ops i=o.dst:=by
 rw [BA]at ho; unfold uJ; rw [ho]; rfl
theorem XI (hT:T=ti P):∀(os:List Nat) (rest seen:List Nat) (n:Nat) (l l':List (Nat×V)) (st:St),V0 T gl ops E none some os n l st=some l' →
  aD P gl ops E B rest (os.reverse++seen) ⟨n,l'⟩ st K→aD P gl ops E B (os++rest) seen ⟨n,l⟩ st K
 | [],rest,seen,n,l,l',st,h,k=>by simp only [V0]at h; injection h with h; subst h; exact k
 | i ::r,rest,seen,n,l,l',st,h,k=>by
  simp only [V0,atI]at h
  split at h
  ·rename_i o ho
   cases hc:(!(E.contains i))&&Xf o.op with
   |false=>rw [hc]at h; simp at h
   | true=>
    rw [hc]at h
    simp only [cond_true]at h
    simp only [Bool.and_eq_true,Bool.not_eq_true']at hc
    have hrev:r.reverse++(i::seen)=(i::r).reverse++seen:=by simp
    simp only [List.cons_append,aD]
    rw [if_neg (by rw [hc.1]; exact Bool.false_ne_true)]
    split at h
    ·rename_i hr
     split at h
     ·rename_i v st' he
      rw [V.fc_eq,gW]at h
      rw [hT,kr]at he
      have hst:=Kj hc.2 he
      subst hst
      refine⟨v,(Yl ho).1 v hr he, ?_⟩
      rw [WA ho,Ql]
      exact XI hT r rest (i::seen) n _ l' _ h (by rw [hrev]; exact k)
     ·cases h
    ·rename_i hr
     rw [gW]at h
     refine⟨_,(Yl ho).2 hr, ?_⟩
     rw [WA ho,Ql]
     exact XI hT r rest (i::seen) n _ l' _ h (by rw [hrev]; exact k)
    ·cases h
  ·cases h
def sq (T:TypeId→TI) (gl:Nat→List V) (ops:Array Oper) (E:List Nat) (os:List Nat) (x:Cfg):Option Cfg:=match x with
 |(⟨n,l⟩,st)=>V0 T gl ops E none (fun l'=>some (⟨n,l'⟩,st)) os n l st
def ll (T:TypeId→TI) (gl:Nat→List V) (ops:Array Oper) (E:List Nat) (os:List Nat) (x:Cfg):Cfg:=match x with
 |(⟨n,l⟩,st)=>V0 T gl ops E ((⟨0,[]⟩,⟨[],[]⟩):Cfg) (fun l'=>(⟨n,l'⟩,st)) os n l st
def lC (T:TypeId→TI) (gl:Nat→List V) (ops:Array Oper) (E:List Nat) (os:List Nat) (x:Cfg):Bool:=match x with
 |(⟨n,l⟩,st)=>V0 T gl ops E false (fun _=>true) os n l st
theorem UT {R:Type} (F:R) (K:List (Nat×V)→R):∀(os:List Nat) (n:Nat) (l:List (Nat×V)) (st:St),V0 T gl ops E F K os n l st=(match V0 T gl ops E none some os n l st with|some l'=>K l'|none=>F)
 | [],n,l,st=>rfl
 | i ::r,n,l,st=>by
  simp only [V0,atI]
  cases ops.toList[i]? with
  |none=>rfl
  | some o=>
   simp only
   cases(!(E.contains i))&&Xf o.op with
   |false=>rfl
   | true=>
    simp only [cond_true]
    cases Zz ops o n l with
    |none=>rfl
    | some b=>
     cases b with
     | true=>
      simp only
      cases jn T gl ⟨n,l⟩ st o.op with
      |none=>rfl
      |some y=>obtain⟨v,st'⟩:=y; simp only [V.fc_eq,gW]; exact UT F K r n _ st
     |false=>simp only [gW]; exact UT F K r n _ st
theorem nU (hT:T=ti P) {rest seen:List Nat} {x:Cfg} (os:List Nat) (hb:lC T gl ops E os x=true) (h:aDC P gl ops E B rest (os.reverse++seen) (ll T gl ops E os x) K):aDC P gl ops E B (os++rest) seen x K:=by
 obtain⟨⟨n,l⟩,st⟩:=x
 simp only [lC,ll]at hb h
 rw [UT]at hb h
 cases hs:V0 T gl ops E none some os n l st with
 |none=>rw [hs]at hb; cases hb
 | some l'=>
  rw [hs]at h
  exact XI hT os rest seen n l l' st hs h
def XO:List (Nat×Option V×V)→Prop
 | []=>True
 |(_,q,v)::r=>q=some v∧XO r
def VB:List (Nat×Option V×V)→Nat→Option (Option V×V)
 | [],_=>none
 |(j,q,v)::r,i=>bif Nat.beq j i then some (q,v)else VB r i
theorem Qv:∀(fx:List (Nat×Option V×V)) (i:Nat) (q:Option V) (v:V),XO fx→VB fx i=some (q,v)→q=some v
 | [],i,q,v,_,h=>by cases h
 | (j,q',v')::r,i,q,v,hf,h=>by
  simp only [VB]at h
  cases hb:Nat.beq j i with
  |true=>rw [hb]at h; simp only [cond_true]at h; injection h with h; injection h with h1 h2; subst h1 h2; exact hf.1
  |false=>rw [hb]at h; exact Qv r i q v hf.2 h
def DH (T:TypeId→TI) (gl:Nat→List V) (ops:Array Oper) (E Bi:List Nat):List Nat→Nat→List (Nat×V)→St→List (Option (V×St))
 | [],_,_,_=> []
 | j::r,n,l,st=>bif E.contains j||Bi.contains j then DH T gl ops E Bi r n l st else
  atI ops j [none] fun o=>match o.dst,Zz ops o n l with
   |some _,some true=>jn T gl ⟨n,l⟩ st o.op::DH T gl ops E Bi r n l st
   |some _,some false=>some (.tuple [],st)::DH T gl ops E Bi r n l st
   |_,_=> [none]
def GX (T:TypeId→TI) (gl:Nat→List V) (ops:Array Oper) (E Bi:List Nat) (fx:List (Nat×Option V×V)):List Nat→Nat→List (Nat×V)→St→List (Option (V×St))
 | [],_,_,_=> []
 | j::r,n,l,st=>bif E.contains j||Bi.contains j then GX T gl ops E Bi fx r n l st else
  atI ops j [] fun o=>match o.dst,Zz ops o n l with
   |some d,some true=>(match VB fx j with|some (q,_)=>pw q st|none=>some (xH l d,st))::GX T gl ops E Bi fx r n l st
   |some d,some false=>some (xH l d,st)::GX T gl ops E Bi fx r n l st
   |_,_=> []
def Bn (ops:Array Oper) (E Bi:List Nat) (fx:List (Nat×Option V×V)):List Nat→Nat→List (Nat×V)→List V
 | [],_,_=> []
 | j::r,n,l=>bif E.contains j||Bi.contains j then Bn ops E Bi fx r n l else
  atI ops j [] fun o=>match o.dst,VB fx j with
   |some d,some _=>xH l d::Bn ops E Bi fx r n l
   |_,_=>Bn ops E Bi fx r n l
def K0 (ops:Array Oper) (E Bi:List Nat) (fx:List (Nat×Option V×V)):List Nat→Nat→List (Nat×V)→List V
 | [],_,_=> []
 | j::r,n,l=>bif E.contains j||Bi.contains j then K0 ops E Bi fx r n l else
  atI ops j [] fun o=>match o.dst,VB fx j with
   |some _,some (_,v)=>(match Zz ops o n l with|some true=>v|_=> .tuple [])::K0 ops E Bi fx r n l
   |_,_=>K0 ops E Bi fx r n l
theorem ZP (hT:T=ti P) {Bi:List Nat} {fx:List (Nat×Option V×V)} (hf:XO fx):∀(seen:List Nat) (n:Nat) (l:List (Nat×V)) (st:St),DH T gl ops E Bi seen n l st=GX T gl ops E Bi fx seen n l st→Bn ops E Bi fx seen n l=K0 ops E Bi fx seen n l →
  gY P gl ops E Bi seen ⟨n,l⟩ st
 | [],n,l,st,_,_=>trivial
 | j :: r,n,l,st,h1,h2=>by
  simp only [DH,GX,Bn,K0]at h1 h2
  simp only [gY]
  cases hc:E.contains j||Bi.contains j with
  | true=>
   rw [hc]at h1 h2
   simp only [cond_true]at h1 h2
   exact⟨trivial,ZP hT hf r n l st h1 h2⟩
  | false=>
   rw [hc]at h1 h2
   simp only [cond_false,atI]at h1 h2
   rw [if_neg (by simp)]
   cases ho:ops.toList[j]? with
   |none=>rw [ho]at h1; simp at h1
   | some o=>
    rw [ho]at h1 h2
    simp only at h1 h2
    have hd:=WA ho
    cases hdd:o.dst with
    |none=>rw [hdd]at h1; simp at h1
    | some d=>
     rw [hdd]at h1 h2
     have still:=Yl (P:=P) (gl:=gl) (n:=n) (l:=l) (st:=st) ho
     cases hr:Zz ops o n l with
     |none=>rw [hr]at h1; simp at h1
     | some b=>
      rw [hr]at h1 h2
      cases b with
      | true=>
       simp only at h1 h2
       injection h1 with h1 h3
       cases hfx:VB fx j with
       | none=>
        rw [hfx]at h1 h2
        simp only at h1 h2
        refine⟨?_,ZP hT hf r n l st h3 h2⟩
        unfold kz; rw [hd,hdd]
        exact still.1 _ hr (by rw [←kr,←hT]; exact h1)
       | some qv=>
        obtain⟨q,v⟩:=qv
        rw [hfx]at h1 h2
        simp only at h1 h2
        injection h2 with h2 h4
        refine⟨?_,ZP hT hf r n l st h3 h4⟩
        unfold kz; rw [hd,hdd]
        have hq:=Qv fx j q v hf hfx
        subst hq
        simp only [h2]
        exact still.1 _ hr (by rw [←kr,←hT]; exact h1)
      | false=>
       simp only at h1 h2
       injection h1 with h1 h3
       injection h1 with h1; injection h1 with h1 _
       have h4:Bn ops E Bi fx r n l=K0 ops E Bi fx r n l:=by
        cases hfx:VB fx j with
        |none=>rw [hfx]at h2; exact h2
        |some qv=>rw [hfx]at h2; simp only at h2; injection h2
       refine⟨?_,ZP hT hf r n l st h3 h4⟩
       unfold kz; rw [hd,hdd]
       simp only [←h1]
       exact still.2 hr
theorem yg:XO []:=trivial
theorem zF (j:Nat) {q:Option V} {v:V} {r:List (Nat×Option V×V)} (h:q=some v) (t:XO r):XO ((j,q,v)::r):=⟨h,t⟩
def Qj (T:TypeId→TI) (gl:Nat→List V) (ops:Array Oper) (i:Nat) (x:Cfg):Option (V×St):=match x with
 | (⟨n,l⟩,st)=>atI ops i none fun o=>match Zz ops o n l with
  |some true=>jn T gl ⟨n,l⟩ st o.op
  |_=>none
def BI (ops:Array Oper) (E:List Nat) (i:Nat):Bool:=atI ops i false fun o=>(not (E.contains i))&&Xf o.op
theorem lh (hT:T=ti P) {i:Nat} {rest seen:List Nat} {x:Cfg} {q:Option V} {v:V} (hq:q=some v) (hb:BI ops E i=true) (he:Qj T gl ops i x=pw q x.2)
  (h:aDC P gl ops E B rest (i::seen) (YD x (xm ops i) v) K):aDC P gl ops E B (i::rest) seen x K:=by
 obtain⟨⟨n,l⟩,st⟩:=x
 subst hq
 rw [V7]at h
 simp only [Qj,BI,atI,pw]at he hb
 cases ho:ops.toList[i]? with
 |none=>rw [ho]at hb; cases hb
 | some o=>
  rw [ho]at he hb
  simp only [Bool.and_eq_true,Bool.not_eq_true']at he hb
  simp only [aDC,aD]
  rw [if_neg (by rw [hb.1]; exact Bool.false_ne_true)]
  cases hr:Zz ops o n l with
  |none=>rw [hr]at he; cases he
  | some b=>
   rw [hr]at he
   cases b with
   |false=>cases he
   | true=>
    simp only at he
    rw [hT,kr]at he
    refine⟨v,(Yl ho).1 v hr he, ?_⟩
    rw [WA ho]
    simp only [xm,ho]at h
    exact h
def stX (T:TypeId→TI) (gl:Nat→List V) (ops:Array Oper) (E:List Nat) (B:List (List Nat)) (i:Nat) (seen:List Nat) (x:Cfg):List (Option (V×St)):=match x with
 |(⟨n,l⟩,st)=>DH T gl ops E (B.getD i []) seen n l st
def stY (T:TypeId→TI) (gl:Nat→List V) (ops:Array Oper) (E:List Nat) (B:List (List Nat)) (fx:List (Nat×Option V×V)) (i:Nat) (seen:List Nat) (x:Cfg):List (Option (V×St)):=match x with
 |(⟨n,l⟩,st)=>GX T gl ops E (B.getD i []) fx seen n l st
def svX (ops:Array Oper) (E:List Nat) (B:List (List Nat)) (fx:List (Nat×Option V×V)) (i:Nat) (seen:List Nat) (x:Cfg):List V:=match x with
 |(⟨n,l⟩,_)=>Bn ops E (B.getD i []) fx seen n l
def svY (ops:Array Oper) (E:List Nat) (B:List (List Nat)) (fx:List (Nat×Option V×V)) (i:Nat) (seen:List Nat) (x:Cfg):List V:=match x with
 |(⟨n,l⟩,_)=>K0 ops E (B.getD i []) fx seen n l
theorem Y2 (hT:T=ti P) {fx:List (Nat×Option V×V)} (hf:XO fx) {i:Nat} {seen:List Nat} {x:Cfg} (h:(stX T gl ops E B i seen x,svX ops E B fx i seen x)=(stY T gl ops E B fx i seen x,svY ops E B fx i seen x)):
  gY P gl ops E (B.getD i []) seen x.1 x.2:=by
 obtain⟨⟨n,l⟩,st⟩:=x
 injection h with h1 h2
 exact ZP hT hf seen n l st h1 h2
def UI (T:TypeId→TI) (gl:Nat→List V) (ops:Array Oper) (i:Nat) (x:Cfg):Cfg:=match x with
 | (⟨n,l⟩,st)=>atI ops i ((⟨0,[]⟩,⟨[],[]⟩):Cfg) fun o=>match Zz ops o n l with
  |some true=>exK T gl n l st o ((⟨0,[]⟩,⟨[],[]⟩):Cfg) fun l' st'=>(⟨n,l'⟩,st')
  |some false=>Vh n l o.dst (.tuple []) fun l'=>(⟨n,l'⟩,st)
  |none=>(⟨0,[]⟩,⟨[],[]⟩)
def lK (T:TypeId→TI) (gl:Nat→List V) (ops:Array Oper) (E:List Nat) (i:Nat) (x:Cfg):Bool:=match x with
 | (⟨n,l⟩,st)=>atI ops i false fun o=>E.contains i&&(match Zz ops o n l with
  |some true=>(match jn T gl ⟨n,l⟩ st o.op with|some _=>true|none=>false)
  |some false=>true
  |none=>false)
theorem lc {R:Type} (n:Nat) (l:List (Nat×V)) (st:St) (o:Oper) (F:R) (K:List (Nat×V)→St→R):exK T gl n l st o F K=(match jn T gl ⟨n,l⟩ st o.op with|some (v,st')=>K ((⟨n,l⟩:AFr).put o.dst v).l st'|none=>F):=by
 unfold exK
 cases jn T gl ⟨n,l⟩ st o.op with
 |none=>rfl
 | some y=>
  obtain⟨v,st'⟩:=y
  simp only [V.fc_eq,gW]
  cases V9 o.op
  ·rfl
  ·simp only; rw [St.fc_eq]
theorem Wg (hT:T=ti P) {i:Nat} {n:Nat} {l:List (Nat×V)} {st:St} {o:Oper} {K:AFr→St→Prop} (ho:ops.toList[i]? =some o):
  (Zz ops o n l=some true→pO P gl o ⟨n,l⟩ st (fun v st'=>K ((⟨n,l⟩:AFr).put o.dst v) st')→Kk P gl ops i ⟨n,l⟩ st K)∧(Zz ops o n l=some false→K ((⟨n,l⟩:AFr).put o.dst (.tuple [])) st→Kk P gl ops i ⟨n,l⟩ st K):=by
 rw [BA]at ho
 unfold Zz Kk
 rw [ho]
 simp only
 cases hg:o.guard with
 |none=>exact⟨fun _ h=>h,fun h=>by cases h⟩
 | some g=>
  obtain⟨j,want⟩:=g
  simp only
  cases hy:qX ops ⟨n,l⟩ j with
  |none=>exact⟨fun h=>by(cases h),fun h=>by(cases h)⟩
  | some b=>
   cases b with
   |none=>exact⟨fun h=>by simp at h,fun _ hk=>⟨fun h=>(by cases h),fun _=>hk⟩⟩
   | some b=>
    simp only [Option.some.injEq]
    have key:(bif b then want else !want)=true↔b=want:=by cases b<;>cases want<;>simp
    have key2:(bif b then want else !want)=false↔b≠want:=by cases b<;>cases want<;>simp
    exact⟨fun h he=>⟨fun _=>he,fun hn=>absurd (key.1 h) hn⟩,fun h hk=>⟨fun hb=>absurd hb (key2.1 h),fun _=>hk⟩⟩
theorem oC (hT:T=ti P) {fx:List (Nat×Option V×V)} (hf:XO fx) {i:Nat} {rest seen:List Nat} {x:Cfg} (hb:lK T gl ops E i x=true)
  (hs:(stX T gl ops E B i seen (UI T gl ops i x),svX ops E B fx i seen (UI T gl ops i x))=(stY T gl ops E B fx i seen (UI T gl ops i x),svY ops E B fx i seen (UI T gl ops i x)))
  (h:aDC P gl ops E B rest (i::seen) (UI T gl ops i x) K):aDC P gl ops E B (i::rest) seen x K:=by
 have hst:=Y2 hT hf hs
 obtain⟨⟨n,l⟩,st⟩:=x
 simp only [lK,UI,atI]at hb h hst
 cases ho:ops.toList[i]? with
 |none=>rw [ho]at hb; cases hb
 | some o=>
  rw [ho]at hb h hst
  simp only [Bool.and_eq_true]at hb h hst
  simp only [aDC,aD]
  rw [if_pos hb.1]
  cases hr:Zz ops o n l with
  |none=>rw [hr]at hb; cases hb.2
  | some b=>
   rw [hr]at hb h hst
   cases b with
   | true=>
    simp only at hb h hst
    rw [lc]at h hst
    cases he:jn T gl ⟨n,l⟩ st o.op with
    |none=>rw [he]at hb; cases hb.2
    | some y=>
     obtain⟨v,st'⟩:=y
     rw [he]at h hst
     simp only at h hst
     rw [←Ql]at h hst
     rw [hT,kr]at he
     exact(Wg hT ho).1 hr (Xd he ⟨hst,h⟩)
   | false=>
    simp only at h hst
    rw [gW]at h hst
    rw [←Ql]at h hst
    exact(Wg hT ho).2 hr ⟨hst,h⟩
theorem oe (hT:T=ti P) {fx:List (Nat×Option V×V)} (hf:XO fx) {i:Nat} {rest seen:List Nat} {x:Cfg} (t:Nat) {α:Type} (c:α→List V) {l l2 l':List α} {e e2:TypeId} {sz bytes b2:Nat} {tok2:Tok} (h1:jV bytes l l2=some l')
  (hb:(E.contains i&&bp T e sz bytes)=true) (he:(x.2.fams[t]?,Qj T gl ops i x)=(some l.length,vt T x.2 (.slice e sz bytes) (.slice e2 sz b2) (.sl sz (l.map c) (.fam t l.length)) (.sl sz (l2.map c) tok2)))
  (hs:(stX T gl ops E B i seen (qt x (xm ops i) (.sl sz (l'.map c) (.fam t l'.length)) (fun st=>st.setFam t l'.length)),svX ops E B fx i seen (qt x (xm ops i) (.sl sz (l'.map c) (.fam t l'.length)) (fun st=>st.setFam t l'.length)))=(stY T gl ops E B fx i seen (qt x (xm ops i) (.sl sz (l'.map c) (.fam t l'.length)) (fun st=>st.setFam t l'.length)),svY ops E B fx i seen (qt x (xm ops i) (.sl sz (l'.map c) (.fam t l'.length)) (fun st=>st.setFam t l'.length))))
  (h:aDC P gl ops E B rest (i::seen) (qt x (xm ops i) (.sl sz (l'.map c) (.fam t l'.length)) (fun st=>st.setFam t l'.length)) K):aDC P gl ops E B (i::rest) seen x K:=by
 have hst:=Y2 hT hf hs
 obtain⟨⟨n,l0⟩,st⟩:=x
 rw [pZ]at h hst
 simp only [Bool.and_eq_true]at hb
 injection he with he1 he2
 simp only at he1 he2
 rw [Jz hb.2 he1 h1]at he2
 simp only [Qj,atI]at he2
 cases ho:ops.toList[i]? with
 |none=>rw [ho]at he2; cases he2
 | some o=>
  rw [ho]at he2
  simp only at he2
  simp only [aDC,aD]
  rw [if_pos hb.1]
  cases hr:Zz ops o n l0 with
  |none=>rw [hr]at he2; cases he2
  | some b=>
   rw [hr]at he2
   cases b with
   |false=>cases he2
   | true=>
    simp only at he2
    rw [hT,kr]at he2
    simp only [xm,ho]at h hst
    exact(Wg hT ho).1 hr (Xd he2 ⟨hst,h⟩)
def GS (ops:Array Oper) (i:Nat) (x:Cfg):Option (FuncId×List V):=match x with
 | (⟨n,l⟩,_)=>atI ops i none fun o=>match Zz ops o n l with
  |some true=>(match o.op with| .call ⟨.value f,args,_⟩=>Y3 ((⟨n,l⟩:AFr).eval f) (args.toList.map (⟨n,l⟩:AFr).eval)|_=>none)
  |_=>none
def hQ (ops:Array Oper) (E:List Nat) (i:Nat) (x:Cfg) (R:Ren) (f:FuncId) (args1:List V) (st1:St):Bool:=match GS ops i x with
 |some (f',args)=>E.contains i&&Nat.beq f' f&&Q5 R st1 x.2 args1 args
 |none=>false
def hM (ops:Array Oper) (i:Nat) (x:Cfg) (R:Ren) (args1:List V) (st1:St):List (List V)×List (Option Nat)×List V:=match GS ops i x with
 |some (_,args)=>callR R st1 x.2 args1 args
 |none=>([],[],[])
theorem sb (hT:T=ti P) {fx:List (Nat×Option V×V)} (hf:XO fx) {i:Nat} {rest seen:List Nat} {x:Cfg} (R:Ren) {f:FuncId} {args1:List V} {st1 st1':St} {r:V} (hc:wN P gl f args1 st1 (Out r st1'))
  (hb:hQ ops E i x R f args1 st1=true) (he:callL R st1 args1=hM ops i x R args1 st1)
  (hs:(stX T gl ops E B i seen (qt x (xm ops i) (V.ren R r) (fun st=>St.after R st st1')),svX ops E B fx i seen (qt x (xm ops i) (V.ren R r) (fun st=>St.after R st st1')))=(stY T gl ops E B fx i seen (qt x (xm ops i) (V.ren R r) (fun st=>St.after R st st1')),svY ops E B fx i seen (qt x (xm ops i) (V.ren R r) (fun st=>St.after R st st1'))))
  (h:aDC P gl ops E B rest (i::seen) (qt x (xm ops i) (V.ren R r) (fun st=>St.after R st st1')) K):aDC P gl ops E B (i::rest) seen x K:=by
 have hst:=Y2 hT hf hs
 obtain⟨⟨n,l0⟩,st⟩:=x
 rw [pZ]at h hst
 simp only [hQ,hM]at hb he
 cases hq:GS ops i (⟨n,l0⟩,st)with
 |none=>rw [hq]at hb; cases hb
 | some y=>
  obtain⟨f',args⟩:=y
  rw [hq]at hb he
  simp only [Bool.and_eq_true,Nat.beq_eq]at hb he
  obtain⟨⟨hE,hF⟩,hB⟩:=hb
  subst hF
  simp only [GS,atI]at hq
  cases ho:ops.toList[i]? with
  |none=>rw [ho]at hq; cases hq
  | some o=>
   rw [ho]at hq
   simp only at hq
   cases hr:Zz ops o n l0 with
   |none=>rw [hr]at hq; cases hq
   | some b=>
    rw [hr]at hq
    cases b with
    |false=>cases hq
    | true=>
     simp only at hq
     simp only [xm,ho]at h hst
     simp only [aDC,aD]
     rw [if_pos hE]
     refine(Wg hT ho).1 hr ?_
     split at hq
     ·rename_i fo cargs tys hop
      unfold pO
      rw [hop]
      simp only
      rw [hq]
      simp only [Q5,Bool.and_eq_true]at hB
      obtain⟨⟨h1,h4⟩,h5⟩:=hB
      injection he with h2 he; injection he with h3 h6
      rw [Uv,WB]at h2
      rw [UU,US]at h3
      refine⟨hc.1,fun w0 G w cargs hrel hv hsc=> ?_⟩
      have hemb:=Emb.gen h1 h2 h3.symm hrel.sc
      have hs1:V.scs st1 args1:=V.scs_of_ren (fun k hk=>by rw [hemb.lenσ]; exact hk) hemb.fams _ h4 (by rw [h6]; exact V.scs_shrs _ _ _ h5 hsc)
      have:=(hc.frame hemb (by rw [h6]; exact V.shrs_le _ _) hs1).mono (Q':=fun v st'=>gY P gl ops E (B.getD i []) seen ((⟨n,l0⟩:AFr).put o.dst v) st'∧aD P gl ops E B rest (i::seen) ((⟨n,l0⟩:AFr).put o.dst v) st' K) (by
       rintro r' s' ⟨r1,s1,⟨rfl,rfl⟩,rfl,rfl⟩; exact⟨hst,h⟩)
      exact this.2 w0 G w cargs hrel hv hsc
     ·cases hq
def K2 (ops:Array Oper) (i:Nat) (x:Cfg):Option (Nat×V):=match x with
 | (⟨n,l⟩,_)=>atI ops i none fun o=>match o.guard with
  |some (j,_)=>(match xm ops j with|some d=>some (d,xH l d)|none=>none)
  |none=>none
theorem cH {i:Nat} {rest seen:List Nat} {x:Cfg} (d:Nat) (b:Bool) (he:K2 ops i x=some (d, .bool b))
  (ht:b=true→aDC P gl ops E B (i::rest) seen (YD x (some d) (.bool true)) K) (hf:b=false→aDC P gl ops E B (i::rest) seen (YD x (some d) (.bool false)) K):aDC P gl ops E B (i::rest) seen x K:=by
 obtain⟨⟨n,l⟩,st⟩:=x
 have hl:xH l d= .bool b:=by
  simp only [K2,atI]at he
  split at he
  ·split at he
   ·split at he
    ·injection he with he; injection he with h1 h2; rw [←h1]; exact h2
    ·cases he
   ·cases he
  ·cases he
 have same:∀b',b=b'→(⟨n,l⟩:AFr).put (some d) (.bool b')=⟨n,l⟩:=by
  rintro b' rfl
  simp only [AFr.put]
  split
  ·rw [←hl,Jd _ _ (by rw [hl]; simp)]
  ·rfl
 simp only [V7]at ht hf
 cases b with
 |true=>have:=ht rfl; rw [same true rfl]at this; exact this
 |false=>have:=hf rfl; rw [same false rfl]at this; exact this
theorem nR {s0:St} {seen:List Nat} {x:Cfg} {fr':AFr} {st':St} (R:Ren) (hb:wkB s0 R x.1 x.2 fr' st'=true) (he:wkL R fr' st'=wkR R x.1 x.2 fr' st'):aDC P gl ops E B [] seen x (toW s0 fr' st'):=Wk.gen R hb he
theorem Uc {s0:St} {cs:List Code} {AQ:Exit→AFr→St→Prop} {id:Nat} {fr:AFr} {st:St} (order E:List Nat) (B:List (List Nat)) (fr':AFr) (st':St) (hm:P.follows .mixedOrders=true) (hc:dY ops fr.n order E B=true) (hcl:Cl s0 (zH P gl s0 cs AQ))
  (h:aDC P gl ops E B order [] (fr,st) (toW s0 fr' st')) (h2:zH P gl s0 cs AQ fr' st'):zH P gl s0 (.region id ops true::cs) AQ fr st:=by
 refine gJ.of (uC.draw order E B hm hc (JP ?_ _ _ _ _ h))
 intro fr1 st1 hw
 exact hcl _ _ _ _ hw h2
end
theorem GK (l:List Int):(match bg (l.map (cI .u8))with|some b=>some (V.str b)|none=>none)=some (.str (b2s l)):=by rw [UL]
attribute [irreducible] aDC
end Go.Abs
end
