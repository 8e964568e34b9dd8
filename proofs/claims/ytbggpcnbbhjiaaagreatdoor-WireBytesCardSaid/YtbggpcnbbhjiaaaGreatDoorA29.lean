/- Layer: an abstract reading of values and worlds, and that the model's operations, regions, loops and calls keep to it. No condition beyond each statement's own. -/
import Derived.Test.YtbggpcnbbhjiaaaGreatDoorA28
set_option linter.unusedVariables false
set_option linter.unusedSimpArgs false
set_option linter.unnecessarySimpa false
section
namespace Go.Abs
open Go.RowKit (Below)
def Ug:Op→Bool
 | .alloc .. | .box .. | .store .. | .makeSlice .. | .makeMap .. | .mapUpdate .. | .range .. | .next .. => false
 | .call ⟨.builtin b,_,_⟩=>match b with| .len| .min=>true|_=>false
 | .call .. => false
 |_=>true
theorem cE {P:Program} {gl:Nat→List V} {fr:AFr} {st st':St} {o:Op} {v:V} (hs:Ug o=true) (h:wV P gl fr st o=some (v,st')):st'=st:=by
 cases o with
 |alloc=>cases hs
 |box=>cases hs
 |store=>cases hs
 |makeSlice=>cases hs
 |makeMap=>cases hs
 |mapUpdate=>cases hs
 |range=>cases hs
 |next=>cases hs
 | call c=>
  obtain⟨cal,args,tys⟩:=c
  cases cal with
  | builtin b=>
   cases b<;>simp only [Ug,Bool.false_eq_true]at hs
   all_goals
    simp only [wV]at h
    rcases Vn h with⟨_,_,_,hb,_⟩|h
    ·cases hb
    simp only [Ya]at h
    repeat' (first|(cases h; done)|(injection h with h; injection h with h1 h2; exact h2.symm)|(rename_i hx _ _ _; cases hx; done)|(rename_i hx _ _; cases hx; done)|split at h)
    all_goals (rename_i hx _ _ ; cases hx)
  |_=>cases hs
 | _=>
  simp only [wV]at h
  repeat' (first|(cases h; done)|(injection h with h; injection h with h1 h2; exact h2.symm)|split at h)
section
variable {P:Program} {T:TypeId→TI} {gl:Nat→List V} {ops:Array Oper} {E:List Nat} {B:List (List Nat)} {K:AFr→St→Prop}
def aDC (P:Program) (gl:Nat→List V) (ops:Array Oper) (E:List Nat) (B:List (List Nat)) (order seen:List Nat) (x:Cfg) (K:AFr→St→Prop):Prop:=aD P gl ops E B order seen x.1 x.2 K
def atI {R:Type} (ops:Array Oper) (i:Nat) (F:R) (K:Oper→R):R:=match ops.toList[i]? with|some o=>K o|none=>F
theorem eO (i:Nat):ops.toList[i]? =ops[i]? :=Array.getElem?_toList
def We (ops:Array Oper) (o:Oper) (n:Nat) (l:List (Nat×V)):Option Bool:=match o.guard with
 |none=>some true
 | some (j,want)=>match gW ops ⟨n,l⟩ j with
  |some (some b)=>some (bif b then want else not want)
  |some none=>some false
  |none=>none
def Kr {R:Type} (T:TypeId→TI) (gl:Nat→List V) (ops:Array Oper) (E:List Nat) (F:R) (K:List (Nat×V)→R):List Nat→Nat→List (Nat×V)→St→R
 | [],n,l,st=>K l
 | i ::r,n,l,st=>atI ops i F fun o=>bif (not (E.contains i))&&Ug o.op then
   (match We ops o n l with
    | some true=>(match qM T gl ⟨n,l⟩ st o.op with
     |some (v,_)=>v.fc fun v'=>QR n l o.dst v' fun l'=>Kr T gl ops E F K r n l' st
     |none=>F)
    |some false=>QR n l o.dst (.tuple []) fun l'=>Kr T gl ops E F K r n l' st
    |none=>F)
  else F
theorem Vf {o:Oper} {n:Nat} {l:List (Nat×V)} {i:Nat} {st:St} (ho:ops.toList[i]? =some o):
  (∀v,We ops o n l=some true→wV P gl ⟨n,l⟩ st o.op=some (v,st)→pD P gl ops i ⟨n,l⟩ st v)∧(We ops o n l=some false→pD P gl ops i ⟨n,l⟩ st (.tuple [])):=by
 rw [eO]at ho
 unfold We pD
 rw [ho]
 simp only
 cases hg:o.guard with
 |none=>exact⟨fun v _ h=>h,fun h=>by cases h⟩
 | some g=>
  obtain⟨j,want⟩:=g
  simp only
  cases hy:gW ops ⟨n,l⟩ j with
  |none=>exact⟨fun v h=>by(cases h),fun h=>by(cases h)⟩
  | some b=>
   cases b with
   |none=>exact⟨fun v h=>by simp at h,fun _=>⟨fun h=>(by cases h),fun _=>by first|rfl|trivial⟩⟩
   | some b=>
    simp only [Option.some.injEq]
    have key:(bif b then want else !want)=true↔b=want:=by cases b<;>cases want<;>simp
    have key2:(bif b then want else !want)=false↔b≠want:=by cases b<;>cases want<;>simp
    exact⟨fun v h he=>⟨fun _=>he,fun hn=>absurd (key.1 h) hn⟩,fun h=>⟨fun hb=>absurd hb (key2.1 h),fun _=>by first|rfl|trivial⟩⟩
theorem Dg (n:Nat) (l:List (Nat×V)) (d:Option Tmp) (v:V):(⟨n,l⟩:AFr).put d v=⟨n,((⟨n,l⟩:AFr).put d v).l⟩:=by
 cases d with
 |none=>rfl
 |some d=>simp only [AFr.put]; split<;>rfl
theorem J6 {i:Nat} {o:Oper} (ho:ops.toList[i]? =some o):jZ ops i=o.dst:=by
 rw [eO]at ho; unfold jZ; rw [ho]; rfl
theorem US (hT:T=ti P):∀(os:List Nat) (rest seen:List Nat) (n:Nat) (l l':List (Nat×V)) (st:St),Kr T gl ops E none some os n l st=some l' →
  aD P gl ops E B rest (os.reverse++seen) ⟨n,l'⟩ st K→aD P gl ops E B (os++rest) seen ⟨n,l⟩ st K
 | [],rest,seen,n,l,l',st,h,k=>by simp only [Kr]at h; injection h with h; subst h; exact k
 | i ::r,rest,seen,n,l,l',st,h,k=>by
  simp only [Kr,atI]at h
  split at h
  ·rename_i o ho
   cases hc:(!(E.contains i))&&Ug o.op with
   |false=>rw [hc]at h; simp at h
   | true=>
    rw [hc]at h
    simp only [cond_true]at h
    simp only [Bool.and_eq_true,Bool.not_eq_true']at hc
    have hrev:r.reverse++(i::seen)=(i::r).reverse++seen:=O2
    simp only [List.cons_append,aD]
    rw [if_neg (by rw [hc.1]; exact Bool.false_ne_true)]
    split at h
    ·rename_i hr
     split at h
     ·rename_i v st' he
      rw [V.fc_eq,Z5]at h
      rw [hT,dk]at he
      have hst:=cE hc.2 he
      subst hst
      refine⟨v,(Vf ho).1 v hr he, ?_⟩
      rw [J6 ho,Dg]
      exact US hT r rest (i::seen) n _ l' _ h (by rw [hrev]; exact k)
     ·cases h
    ·rename_i hr
     rw [Z5]at h
     refine⟨_,(Vf ho).2 hr, ?_⟩
     rw [J6 ho,Dg]
     exact US hT r rest (i::seen) n _ l' _ h (by rw [hrev]; exact k)
    ·cases h
  ·cases h
def ze4 (T:TypeId→TI) (gl:Nat→List V) (ops:Array Oper) (E:List Nat) (os:List Nat) (x:Cfg):Option Cfg:=match x with
 |(⟨n,l⟩,st)=>Kr T gl ops E none (fun l'=>some (⟨n,l'⟩,st)) os n l st
def zbg (T:TypeId→TI) (gl:Nat→List V) (ops:Array Oper) (E:List Nat) (os:List Nat) (x:Cfg):Cfg:=match x with
 |(⟨n,l⟩,st)=>Kr T gl ops E ((⟨0,[]⟩,⟨[],[]⟩):Cfg) (fun l'=>(⟨n,l'⟩,st)) os n l st
def zaY (T:TypeId→TI) (gl:Nat→List V) (ops:Array Oper) (E:List Nat) (os:List Nat) (x:Cfg):Bool:=match x with
 |(⟨n,l⟩,st)=>Kr T gl ops E false (fun _=>true) os n l st
theorem Bq {R:Type} (F:R) (K:List (Nat×V)→R):∀(os:List Nat) (n:Nat) (l:List (Nat×V)) (st:St),Kr T gl ops E F K os n l st=(match Kr T gl ops E none some os n l st with|some l'=>K l'|none=>F)
 | [],n,l,st=>rfl
 | i ::r,n,l,st=>by
  simp only [Kr,atI]
  cases ops.toList[i]? with
  |none=>rfl
  | some o=>
   simp only
   cases(!(E.contains i))&&Ug o.op with
   |false=>rfl
   | true=>
    simp only [cond_true]
    cases We ops o n l with
    |none=>rfl
    | some b=>
     cases b with
     | true=>
      simp only
      cases qM T gl ⟨n,l⟩ st o.op with
      |none=>rfl
      |some y=>obtain⟨v,st'⟩:=y; simp only [V.fc_eq,Z5]; exact Bq F K r n _ st
     |false=>simp only [Z5]; exact Bq F K r n _ st
theorem zbR (hT:T=ti P) {rest seen:List Nat} {x:Cfg} (os:List Nat) (hb:zaY T gl ops E os x=true) (h:aDC P gl ops E B rest (os.reverse++seen) (zbg T gl ops E os x) K):aDC P gl ops E B (os++rest) seen x K:=by
 obtain⟨⟨n,l⟩,st⟩:=x
 simp only [zaY,zbg]at hb h
 rw [Bq]at hb h
 cases hs:Kr T gl ops E none some os n l st with
 |none=>rw [hs]at hb; cases hb
 | some l'=>
  rw [hs]at h
  exact US hT os rest seen n l l' st hs h
def U3:List (Nat×Option V×V)→Prop
 | []=>True
 |(_,q,v)::r=>q=some v∧U3 r
def Q6:List (Nat×Option V×V)→Nat→Option (Option V×V)
 | [],_=>none
 |(j,q,v)::r,i=>bif Nat.beq j i then some (q,v)else Q6 r i
theorem DS:∀(fx:List (Nat×Option V×V)) (i:Nat) (q:Option V) (v:V),U3 fx→Q6 fx i=some (q,v)→q=some v
 | [],i,q,v,_,h=>by cases h
 | (j,q',v')::r,i,q,v,hf,h=>by
  simp only [Q6]at h
  cases hb:Nat.beq j i with
  |true=>rw [hb]at h; simp only [cond_true]at h; injection h with h; injection h with h1 h2; subst h1 h2; exact hf.1
  |false=>rw [hb]at h; exact DS r i q v hf.2 h
def ou (T:TypeId→TI) (gl:Nat→List V) (ops:Array Oper) (E Bi:List Nat):List Nat→Nat→List (Nat×V)→St→List (Option (V×St))
 | [],_,_,_=> []
 | j::r,n,l,st=>bif E.contains j||Bi.contains j then ou T gl ops E Bi r n l st else
  atI ops j [none] fun o=>match o.dst,We ops o n l with
   |some _,some true=>qM T gl ⟨n,l⟩ st o.op::ou T gl ops E Bi r n l st
   |some _,some false=>some (.tuple [],st)::ou T gl ops E Bi r n l st
   |_,_=> [none]
def nB (T:TypeId→TI) (gl:Nat→List V) (ops:Array Oper) (E Bi:List Nat) (fx:List (Nat×Option V×V)):List Nat→Nat→List (Nat×V)→St→List (Option (V×St))
 | [],_,_,_=> []
 | j::r,n,l,st=>bif E.contains j||Bi.contains j then nB T gl ops E Bi fx r n l st else
  atI ops j [] fun o=>match o.dst,We ops o n l with
   |some d,some true=>(match Q6 fx j with|some (q,_)=>Zw q st|none=>some (vV l d,st))::nB T gl ops E Bi fx r n l st
   |some d,some false=>some (vV l d,st)::nB T gl ops E Bi fx r n l st
   |_,_=> []
def fH (ops:Array Oper) (E Bi:List Nat) (fx:List (Nat×Option V×V)):List Nat→Nat→List (Nat×V)→List V
 | [],_,_=> []
 | j::r,n,l=>bif E.contains j||Bi.contains j then fH ops E Bi fx r n l else
  atI ops j [] fun o=>match o.dst,Q6 fx j with
   |some d,some _=>vV l d::fH ops E Bi fx r n l
   |_,_=>fH ops E Bi fx r n l
def eC (ops:Array Oper) (E Bi:List Nat) (fx:List (Nat×Option V×V)):List Nat→Nat→List (Nat×V)→List V
 | [],_,_=> []
 | j::r,n,l=>bif E.contains j||Bi.contains j then eC ops E Bi fx r n l else
  atI ops j [] fun o=>match o.dst,Q6 fx j with
   |some _,some (_,v)=>(match We ops o n l with|some true=>v|_=> .tuple [])::eC ops E Bi fx r n l
   |_,_=>eC ops E Bi fx r n l
theorem WI (hT:T=ti P) {Bi:List Nat} {fx:List (Nat×Option V×V)} (hf:U3 fx):∀(seen:List Nat) (n:Nat) (l:List (Nat×V)) (st:St),ou T gl ops E Bi seen n l st=nB T gl ops E Bi fx seen n l st→fH ops E Bi fx seen n l=eC ops E Bi fx seen n l →
  Z3 P gl ops E Bi seen ⟨n,l⟩ st
 | [],n,l,st,_,_=>trivial
 | j :: r,n,l,st,h1,h2=>by
  simp only [ou,nB,fH,eC]at h1 h2
  simp only [Z3]
  cases hc:E.contains j||Bi.contains j with
  | true=>
   rw [hc]at h1 h2
   simp only [cond_true]at h1 h2
   exact⟨trivial,WI hT hf r n l st h1 h2⟩
  | false=>
   rw [hc]at h1 h2
   simp only [cond_false,atI]at h1 h2
   rw [if_neg O2]
   cases ho:ops.toList[j]? with
   |none=>rw [ho]at h1; simp at h1
   | some o=>
    rw [ho]at h1 h2
    simp only at h1 h2
    have hd:=J6 ho
    cases hdd:o.dst with
    |none=>rw [hdd]at h1; simp at h1
    | some d=>
     rw [hdd]at h1 h2
     have still:=Vf (P:=P) (gl:=gl) (n:=n) (l:=l) (st:=st) ho
     cases hr:We ops o n l with
     |none=>rw [hr]at h1; simp at h1
     | some b=>
      rw [hr]at h1 h2
      cases b with
      | true=>
       simp only at h1 h2
       injection h1 with h1 h3
       cases hfx:Q6 fx j with
       | none=>
        rw [hfx]at h1 h2
        simp only at h1 h2
        refine⟨?_,WI hT hf r n l st h3 h2⟩
        unfold dt; rw [hd,hdd]
        exact still.1 _ hr (by rw [←dk,←hT]; exact h1)
       | some qv=>
        obtain⟨q,v⟩:=qv
        rw [hfx]at h1 h2
        simp only at h1 h2
        injection h2 with h2 h4
        refine⟨?_,WI hT hf r n l st h3 h4⟩
        unfold dt; rw [hd,hdd]
        have hq:=DS fx j q v hf hfx
        subst hq
        simp only [h2]
        exact still.1 _ hr (by rw [←dk,←hT]; exact h1)
      | false=>
       simp only at h1 h2
       injection h1 with h1 h3
       injection h1 with h1; injection h1 with h1 _
       have h4:fH ops E Bi fx r n l=eC ops E Bi fx r n l:=by
        cases hfx:Q6 fx j with
        |none=>rw [hfx]at h2; exact h2
        |some qv=>rw [hfx]at h2; simp only at h2; injection h2
       refine⟨?_,WI hT hf r n l st h3 h4⟩
       unfold dt; rw [hd,hdd]
       simp only [←h1]
       exact still.2 hr
theorem yb:U3 []:=trivial
theorem zr (j:Nat) {q:Option V} {v:V} {r:List (Nat×Option V×V)} (h:q=some v) (t:U3 r):U3 ((j,q,v)::r):=⟨h,t⟩
def Dv (T:TypeId→TI) (gl:Nat→List V) (ops:Array Oper) (i:Nat) (x:Cfg):Option (V×St):=match x with
 | (⟨n,l⟩,st)=>atI ops i none fun o=>match We ops o n l with
  |some true=>qM T gl ⟨n,l⟩ st o.op
  |_=>none
def eh (ops:Array Oper) (E:List Nat) (i:Nat):Bool:=atI ops i false fun o=>(not (E.contains i))&&Ug o.op
theorem zaS (hT:T=ti P) {i:Nat} {rest seen:List Nat} {x:Cfg} {q:Option V} {v:V} (hq:q=some v) (hb:eh ops E i=true) (he:Dv T gl ops i x=Zw q x.2)
  (h:aDC P gl ops E B rest (i::seen) (XH x (xZ ops i) v) K):aDC P gl ops E B (i::rest) seen x K:=by
 obtain⟨⟨n,l⟩,st⟩:=x
 subst hq
 rw [Ky]at h
 simp only [Dv,eh,atI,Zw]at he hb
 cases ho:ops.toList[i]? with
 |none=>rw [ho]at hb; cases hb
 | some o=>
  rw [ho]at he hb
  simp only [Bool.and_eq_true,Bool.not_eq_true']at he hb
  simp only [aDC,aD]
  rw [if_neg (by rw [hb.1]; exact Bool.false_ne_true)]
  cases hr:We ops o n l with
  |none=>rw [hr]at he; cases he
  | some b=>
   rw [hr]at he
   cases b with
   |false=>cases he
   | true=>
    simp only at he
    rw [hT,dk]at he
    refine⟨v,(Vf ho).1 v hr he, ?_⟩
    rw [J6 ho]
    simp only [xZ,ho]at h
    exact h
def stX (T:TypeId→TI) (gl:Nat→List V) (ops:Array Oper) (E:List Nat) (B:List (List Nat)) (i:Nat) (seen:List Nat) (x:Cfg):List (Option (V×St)):=match x with
 |(⟨n,l⟩,st)=>ou T gl ops E (B.getD i []) seen n l st
def stY (T:TypeId→TI) (gl:Nat→List V) (ops:Array Oper) (E:List Nat) (B:List (List Nat)) (fx:List (Nat×Option V×V)) (i:Nat) (seen:List Nat) (x:Cfg):List (Option (V×St)):=match x with
 |(⟨n,l⟩,st)=>nB T gl ops E (B.getD i []) fx seen n l st
def svX (ops:Array Oper) (E:List Nat) (B:List (List Nat)) (fx:List (Nat×Option V×V)) (i:Nat) (seen:List Nat) (x:Cfg):List V:=match x with
 |(⟨n,l⟩,_)=>fH ops E (B.getD i []) fx seen n l
def svY (ops:Array Oper) (E:List Nat) (B:List (List Nat)) (fx:List (Nat×Option V×V)) (i:Nat) (seen:List Nat) (x:Cfg):List V:=match x with
 |(⟨n,l⟩,_)=>eC ops E (B.getD i []) fx seen n l
theorem Um (hT:T=ti P) {fx:List (Nat×Option V×V)} (hf:U3 fx) {i:Nat} {seen:List Nat} {x:Cfg} (h:(stX T gl ops E B i seen x,svX ops E B fx i seen x)=(stY T gl ops E B fx i seen x,svY ops E B fx i seen x)):
  Z3 P gl ops E (B.getD i []) seen x.1 x.2:=by
 obtain⟨⟨n,l⟩,st⟩:=x
 injection h with h1 h2
 exact WI hT hf seen n l st h1 h2
def BB (T:TypeId→TI) (gl:Nat→List V) (ops:Array Oper) (i:Nat) (x:Cfg):Cfg:=match x with
 | (⟨n,l⟩,st)=>atI ops i ((⟨0,[]⟩,⟨[],[]⟩):Cfg) fun o=>match We ops o n l with
  |some true=>exK T gl n l st o ((⟨0,[]⟩,⟨[],[]⟩):Cfg) fun l' st'=>(⟨n,l'⟩,st')
  |some false=>QR n l o.dst (.tuple []) fun l'=>(⟨n,l'⟩,st)
  |none=>(⟨0,[]⟩,⟨[],[]⟩)
def zaX (T:TypeId→TI) (gl:Nat→List V) (ops:Array Oper) (E:List Nat) (i:Nat) (x:Cfg):Bool:=match x with
 | (⟨n,l⟩,st)=>atI ops i false fun o=>E.contains i&&(match We ops o n l with
  |some true=>(match qM T gl ⟨n,l⟩ st o.op with|some _=>true|none=>false)
  |some false=>true
  |none=>false)
theorem zbz {R:Type} (n:Nat) (l:List (Nat×V)) (st:St) (o:Oper) (F:R) (K:List (Nat×V)→St→R):exK T gl n l st o F K=(match qM T gl ⟨n,l⟩ st o.op with|some (v,st')=>K ((⟨n,l⟩:AFr).put o.dst v).l st'|none=>F):=by
 unfold exK
 cases qM T gl ⟨n,l⟩ st o.op with
 |none=>rfl
 | some y=>
  obtain⟨v,st'⟩:=y
  simp only [V.fc_eq,Z5]
  cases KC o.op
  ·rfl
  ·simp only; rw [St.fc_eq]
theorem JA (hT:T=ti P) {i:Nat} {n:Nat} {l:List (Nat×V)} {st:St} {o:Oper} {K:AFr→St→Prop} (ho:ops.toList[i]? =some o):
  (We ops o n l=some true→XF P gl o ⟨n,l⟩ st (fun v st'=>K ((⟨n,l⟩:AFr).put o.dst v) st')→cz P gl ops i ⟨n,l⟩ st K)∧(We ops o n l=some false→K ((⟨n,l⟩:AFr).put o.dst (.tuple [])) st→cz P gl ops i ⟨n,l⟩ st K):=by
 rw [eO]at ho
 unfold We cz
 rw [ho]
 simp only
 cases hg:o.guard with
 |none=>exact⟨fun _ h=>h,fun h=>by cases h⟩
 | some g=>
  obtain⟨j,want⟩:=g
  simp only
  cases hy:gW ops ⟨n,l⟩ j with
  |none=>exact⟨fun h=>by(cases h),fun h=>by(cases h)⟩
  | some b=>
   cases b with
   |none=>exact⟨fun h=>by simp at h,fun _ hk=>⟨fun h=>(by cases h),fun _=>hk⟩⟩
   | some b=>
    simp only [Option.some.injEq]
    have key:(bif b then want else !want)=true↔b=want:=by cases b<;>cases want<;>simp
    have key2:(bif b then want else !want)=false↔b≠want:=by cases b<;>cases want<;>simp
    exact⟨fun h he=>⟨fun _=>he,fun hn=>absurd (key.1 h) hn⟩,fun h hk=>⟨fun hb=>absurd hb (key2.1 h),fun _=>hk⟩⟩
theorem zbS (hT:T=ti P) {fx:List (Nat×Option V×V)} (hf:U3 fx) {i:Nat} {rest seen:List Nat} {x:Cfg} (hb:zaX T gl ops E i x=true)
  (hs:(stX T gl ops E B i seen (BB T gl ops i x),svX ops E B fx i seen (BB T gl ops i x))=(stY T gl ops E B fx i seen (BB T gl ops i x),svY ops E B fx i seen (BB T gl ops i x)))
  (h:aDC P gl ops E B rest (i::seen) (BB T gl ops i x) K):aDC P gl ops E B (i::rest) seen x K:=by
 have hst:=Um hT hf hs
 obtain⟨⟨n,l⟩,st⟩:=x
 simp only [zaX,BB,atI]at hb h hst
 cases ho:ops.toList[i]? with
 |none=>rw [ho]at hb; cases hb
 | some o=>
  rw [ho]at hb h hst
  simp only [Bool.and_eq_true]at hb h hst
  simp only [aDC,aD]
  rw [if_pos hb.1]
  cases hr:We ops o n l with
  |none=>rw [hr]at hb; cases hb.2
  | some b=>
   rw [hr]at hb h hst
   cases b with
   | true=>
    simp only at hb h hst
    rw [zbz]at h hst
    cases he:qM T gl ⟨n,l⟩ st o.op with
    |none=>rw [he]at hb; cases hb.2
    | some y=>
     obtain⟨v,st'⟩:=y
     rw [he]at h hst
     simp only at h hst
     rw [←Dg]at h hst
     rw [hT,dk]at he
     exact(JA hT ho).1 hr (Uf he ⟨hst,h⟩)
   | false=>
    simp only at h hst
    rw [Z5]at h hst
    rw [←Dg]at h hst
    exact(JA hT ho).2 hr ⟨hst,h⟩
theorem zdr (hT:T=ti P) {fx:List (Nat×Option V×V)} (hf:U3 fx) {i:Nat} {rest seen:List Nat} {x:Cfg} (t:Nat) {α:Type} (c:α→List V) {l l2 l':List α} {e e2:TypeId} {sz bytes b2:Nat} {tok2:Tok} (h1:gL bytes l l2=some l')
  (hb:(E.contains i&&Yj T e sz bytes)=true) (he:(x.2.fams[t]?,Dv T gl ops i x)=(some l.length,qA T x.2 (.slice e sz bytes) (.slice e2 sz b2) (.sl sz (l.map c) (.fam t l.length)) (.sl sz (l2.map c) tok2)))
  (hs:(stX T gl ops E B i seen (gj x (xZ ops i) (.sl sz (l'.map c) (.fam t l'.length)) (fun st=>st.setFam t l'.length)),svX ops E B fx i seen (gj x (xZ ops i) (.sl sz (l'.map c) (.fam t l'.length)) (fun st=>st.setFam t l'.length)))=(stY T gl ops E B fx i seen (gj x (xZ ops i) (.sl sz (l'.map c) (.fam t l'.length)) (fun st=>st.setFam t l'.length)),svY ops E B fx i seen (gj x (xZ ops i) (.sl sz (l'.map c) (.fam t l'.length)) (fun st=>st.setFam t l'.length))))
  (h:aDC P gl ops E B rest (i::seen) (gj x (xZ ops i) (.sl sz (l'.map c) (.fam t l'.length)) (fun st=>st.setFam t l'.length)) K):aDC P gl ops E B (i::rest) seen x K:=by
 have hst:=Um hT hf hs
 obtain⟨⟨n,l0⟩,st⟩:=x
 rw [Vd]at h hst
 simp only [Bool.and_eq_true]at hb
 injection he with he1 he2
 simp only at he1 he2
 rw [B6 hb.2 he1 h1]at he2
 simp only [Dv,atI]at he2
 cases ho:ops.toList[i]? with
 |none=>rw [ho]at he2; cases he2
 | some o=>
  rw [ho]at he2
  simp only at he2
  simp only [aDC,aD]
  rw [if_pos hb.1]
  cases hr:We ops o n l0 with
  |none=>rw [hr]at he2; cases he2
  | some b=>
   rw [hr]at he2
   cases b with
   |false=>cases he2
   | true=>
    simp only at he2
    rw [hT,dk]at he2
    simp only [xZ,ho]at h hst
    exact(JA hT ho).1 hr (Uf he2 ⟨hst,h⟩)
def mE (ops:Array Oper) (i:Nat) (x:Cfg):Option (FuncId×List V):=match x with
 | (⟨n,l⟩,_)=>atI ops i none fun o=>match We ops o n l with
  |some true=>(match o.op with| .call ⟨.value f,args,_⟩=>Uk ((⟨n,l⟩:AFr).eval f) (args.toList.map (⟨n,l⟩:AFr).eval)|_=>none)
  |_=>none
def zbc (ops:Array Oper) (E:List Nat) (i:Nat) (x:Cfg) (R:Ren) (f:FuncId) (args1:List V) (st1:St):Bool:=match mE ops i x with
 |some (f',args)=>E.contains i&&Nat.beq f' f&&D7 R st1 x.2 args1 args
 |none=>false
def za6 (ops:Array Oper) (i:Nat) (x:Cfg) (R:Ren) (args1:List V) (st1:St):List (List V)×List (Option Nat)×List V:=match mE ops i x with
 |some (_,args)=>rQ R st1 x.2 args1 args
 |none=>([],[],[])
theorem zeK (hT:T=ti P) {fx:List (Nat×Option V×V)} (hf:U3 fx) {i:Nat} {rest seen:List Nat} {x:Cfg} (R:Ren) {f:FuncId} {args1:List V} {st1 st1':St} {r:V} (hc:uR P gl f args1 st1 (Out r st1'))
  (hb:zbc ops E i x R f args1 st1=true) (he:Kd R st1 args1=za6 ops i x R args1 st1)
  (hs:(stX T gl ops E B i seen (gj x (xZ ops i) (V.ren R r) (fun st=>St.after R st st1')),svX ops E B fx i seen (gj x (xZ ops i) (V.ren R r) (fun st=>St.after R st st1')))=(stY T gl ops E B fx i seen (gj x (xZ ops i) (V.ren R r) (fun st=>St.after R st st1')),svY ops E B fx i seen (gj x (xZ ops i) (V.ren R r) (fun st=>St.after R st st1'))))
  (h:aDC P gl ops E B rest (i::seen) (gj x (xZ ops i) (V.ren R r) (fun st=>St.after R st st1')) K):aDC P gl ops E B (i::rest) seen x K:=by
 have hst:=Um hT hf hs
 obtain⟨⟨n,l0⟩,st⟩:=x
 rw [Vd]at h hst
 simp only [zbc,za6]at hb he
 cases hq:mE ops i (⟨n,l0⟩,st)with
 |none=>rw [hq]at hb; cases hb
 | some y=>
  obtain⟨f',args⟩:=y
  rw [hq]at hb he
  simp only [Bool.and_eq_true,Nat.beq_eq]at hb he
  obtain⟨⟨hE,hF⟩,hB⟩:=hb
  subst hF
  simp only [mE,atI]at hq
  cases ho:ops.toList[i]? with
  |none=>rw [ho]at hq; cases hq
  | some o=>
   rw [ho]at hq
   simp only at hq
   cases hr:We ops o n l0 with
   |none=>rw [hr]at hq; cases hq
   | some b=>
    rw [hr]at hq
    cases b with
    |false=>cases hq
    | true=>
     simp only at hq
     simp only [xZ,ho]at h hst
     simp only [aDC,aD]
     rw [if_pos hE]
     refine(JA hT ho).1 hr ?_
     split at hq
     ·rename_i fo cargs tys hop
      unfold XF
      rw [hop]
      simp only
      rw [hq]
      simp only [D7,Bool.and_eq_true]at hB
      obtain⟨⟨h1,h4⟩,h5⟩:=hB
      injection he with h2 he; injection he with h3 h6
      rw [KG,Qb]at h2
      rw [BM,BE]at h3
      refine⟨hc.1,fun w0 G w cargs hrel hv hsc=> ?_⟩
      have hemb:=Emb.gen h1 h2 h3.symm hrel.sc
      have hs1:V.scs st1 args1:=V.scs_of_ren (fun k hk=>by rw [hemb.lenσ]; exact hk) hemb.fams _ h4 (by rw [h6]; exact V.scs_shrs _ _ _ h5 hsc)
      have:=(hc.frame hemb (by rw [h6]; exact V.shrs_le _ _) hs1).mono (Q':=fun v st'=>Z3 P gl ops E (B.getD i []) seen ((⟨n,l0⟩:AFr).put o.dst v) st'∧aD P gl ops E B rest (i::seen) ((⟨n,l0⟩:AFr).put o.dst v) st' K) (by
       rintro r' s' ⟨r1,s1,⟨rfl,rfl⟩,rfl,rfl⟩; exact⟨hst,h⟩)
      exact this.2 w0 G w cargs hrel hv hsc
     ·cases hq
def fp (ops:Array Oper) (i:Nat) (x:Cfg):Option (Nat×V):=match x with
 | (⟨n,l⟩,_)=>atI ops i none fun o=>match o.guard with
  |some (j,_)=>(match xZ ops j with|some d=>some (d,vV l d)|none=>none)
  |none=>none
theorem zae {i:Nat} {rest seen:List Nat} {x:Cfg} (d:Nat) (b:Bool) (he:fp ops i x=some (d, .bool b))
  (ht:b=true→aDC P gl ops E B (i::rest) seen (XH x (some d) (.bool true)) K) (hf:b=false→aDC P gl ops E B (i::rest) seen (XH x (some d) (.bool false)) K):aDC P gl ops E B (i::rest) seen x K:=by
 obtain⟨⟨n,l⟩,st⟩:=x
 have hl:vV l d= .bool b:=by
  simp only [fp,atI]at he
  split at he
  ·split at he
   ·split at he
    ·injection he with he; injection he with h1 h2; rw [←h1]; exact h2
    ·cases he
   ·cases he
  ·cases he
 have same:∀b',b=b'→(⟨n,l⟩:AFr).put (some d) (.bool b')=⟨n,l⟩:=by
  rintro b' rfl
  simp only [AFr.put]
  split
  ·rw [←hl,Gm _ _ (by rw [hl]; simp)]
  ·rfl
 simp only [Ky]at ht hf
 cases b with
 |true=>have:=ht rfl; rw [same true rfl]at this; exact this
 |false=>have:=hf rfl; rw [same false rfl]at this; exact this
theorem zbN {s0:St} {seen:List Nat} {x:Cfg} {fr':AFr} {st':St} (R:Ren) (hb:wkB s0 R x.1 x.2 fr' st'=true) (he:wkL R fr' st'=wkR R x.1 x.2 fr' st'):aDC P gl ops E B [] seen x (toW s0 fr' st'):=Wk.gen R hb he
theorem Br {s0:St} {cs:List Code} {AQ:Exit→AFr→St→Prop} {id:Nat} {fr:AFr} {st:St} (order E:List Nat) (B:List (List Nat)) (fr':AFr) (st':St) (hm:P.follows .mixedOrders=true) (hc:YJ ops fr.n order E B=true) (hcl:Cl s0 (zt P gl s0 cs AQ))
  (h:aDC P gl ops E B order [] (fr,st) (toW s0 fr' st')) (h2:zt P gl s0 cs AQ fr' st'):zt P gl s0 (.region id ops true::cs) AQ fr st:=by
 refine Zj.of (Q7.draw order E B hm hc (Dw ?_ _ _ _ _ h))
 intro fr1 st1 hw
 exact hcl _ _ _ _ hw h2
end
theorem mD (l:List Int):(match dT (l.map (cI .u8))with|some b=>some (V.str b)|none=>none)=some (.str (b2s l)):=by rw [Bv]
attribute [irreducible] aDC
end Go.Abs
end
