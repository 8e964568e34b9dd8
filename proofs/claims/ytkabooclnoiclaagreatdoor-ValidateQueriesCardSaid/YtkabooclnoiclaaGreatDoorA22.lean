/- Abstract values. No condition. -/
import Derived.Test.YtkabooclnoiclaaGreatDoorA21
set_option linter.all false
section
namespace Go.Abs
open Go.RowKit (Below)
def jP (T:TypeId->TI) (gl:Nat->List V) (ops:Array Oper):List Oper->AFr->St->Option (AFr×St)
 | [],fr,st=>some (fr,st)
 | o ::r,fr,st=>match o.guard with
  | none=>match vP T gl fr st o.op with
   |some (v,a)=>jP T gl ops r (fr.put o.dst v) a
   |none=>none
  | some (j,c)=>match uM ops fr j with
   | some b=>if b=some c then(match vP T gl fr st o.op with
     |some (v,a)=>jP T gl ops r (fr.put o.dst v) a
     |none=>none)else jP T gl ops r (fr.put o.dst (.tuple [])) st
   |none=>none
section
variable {P:Program} {T:TypeId->TI} {gl:Nat->List V} {ops:Array Oper} {K:AFr->St->Prop}
def BS {f:Operand} {args:Array Operand} {tys:Array TypeId} {fr:AFr} {st:St}:xc P gl fr st (.call ⟨.value f,args,tys⟩)=none:=by simp [xc]
def ZB {o:Oper} {fr:AFr} {st:St} {v:V} {st':St} {K:V->St->Prop} (h:xc P gl fr st o.op=some (v,st')) (k:K v st'):gI P gl o fr st K:=by
 unfold gI;split
 ·rename_i f a tys b;rw [b,BS]at h; cases h
 ·rw [h]; exact .inl k
def gd:∀(l:List Oper) (a:List Oper) (fr:AFr) (st:St) (fr':AFr) (st':St),jP (ti P) gl ops l fr st=some (fr',st')->u9 P gl ops a fr' st' K->u9 P gl ops (l++a) fr st K
 | [],a,fr,st,fr',st',h,k=>by simp only [jP]at h; cases h; exact k
 | o ::r,a,fr,st,fr',st',h,k=>by
  simp only [jP,jq]at h;simp only [List.cons_append,u9];split at h
  ·rename_i e;rw [e];split at h
   ·rename_i v i c;exact ZB (K:=fun v st'=>u9 P gl ops (r++a) (fr.put o.dst v) st' K) c (gd r a _ _ _ _ h k)
   ·cases h
  ·rename_i j m e;rw [e];split at h
   ·rename_i b q;simp only [q];split at h
    ·rename_i g;split at h
     ·rename_i v i c;exact⟨fun _=>ZB (K:=fun v st'=>u9 P gl ops (r++a) (fr.put o.dst v) st' K) c (gd r a _ _ _ _ h k),fun f=>absurd g f⟩
     ·cases h
    ·rename_i g;exact⟨fun f=>absurd f g,fun _=>gd r a _ _ _ _ h k⟩
   ·cases h
def bJ (b:T=ti P) (l a:List Oper) (fr:AFr) (st:St) (fr':AFr) (st':St) (h:jP T gl ops l fr st=some (fr',st')) (k:u9 P gl ops a fr' st' K):u9 P gl ops (l++a) fr st K:=by
 subst b; exact gd l a fr st fr' st' h k
def seg (ops:Array Oper) (i k:Nat):List Oper:=(ops.toList.drop i).take (k-i)
def qr (T:TypeId->TI) (gl:Nat->List V) (ops:Array Oper) (i k:Nat) (fr:AFr) (st:St):AFr×St:=(jP T gl ops (seg ops i k) fr st).getD (⟨0,[]⟩,⟨[],[]⟩)
def yw (ops:Array Oper) (k:Nat):Option Tmp:=match ops.toList[k]? with|some o=>o.dst|none=>none
def WI (ops:Array Oper) (o:Oper) (fr:AFr):Bool:=match o.guard with
 |none=>true
 |some (j,a)=>match uM ops fr j with|some b=>decide (b=some a)|none=>false
def Jl (T:TypeId->TI) (gl:Nat->List V) (ops:Array Oper) (i k:Nat) (fr:AFr) (st:St):Option (V×St):=
 match jP T gl ops (seg ops i k) fr st with
 | some (a,b)=>match ops.toList[k]? with
  |some o=>match WI ops o a with|true=>vP T gl a b o.op|false=>none
  |none=>none
 |none=>none
def YA {ops:Array Oper} {i k:Nat} {o:Oper} (a:ops.toList[k]? =some o) (e:i<=k):ops.toList.drop i=seg ops i k++o::ops.toList.drop (k+1):=by
 have b:=zB a;have c:ops.toList.drop i=(ops.toList.drop i).take (k-i)++(ops.toList.drop i).drop (k-i):=(List.take_append_drop _ _).symm;rw [c,List.drop_drop,show i+(k-i)=k by omega,iM b];rw [iK b]at a; injection a with a; rw [a];rfl
def JD {o:Oper} {a:List Oper} {fr:AFr} {st:St} (h:WI ops o fr=true) (k:gI P gl o fr st fun v st'=>u9 P gl ops a (fr.put o.dst v) st' K):u9 P gl ops (o::a) fr st K:=by
 simp only [u9];unfold WI at h;split at h
 ·rename_i c; rw [c]; exact k
 ·rename_i j e c;rw [c];simp only;split at h
  ·rename_i b f;rw [f];exact⟨fun _=>k,fun g=>absurd (of_decide_eq_true h) g⟩
  ·cases h
def D0 (g:T=ti P) {i:Nat} {fr:AFr} {st:St} (k:Nat) {q:Option (V×St)} {v:V} {st':St} (n:q=some (v,st')) (e:Nat.ble i k=true) (a:Jl T gl ops i k fr st=q)
  (h:u9 P gl ops (ops.toList.drop (k+1)) ((qr T gl ops i k fr st).1.put (yw ops k) v) st' K):u9 P gl ops (ops.toList.drop i) fr st K:=by
 subst n;unfold Jl at a;split at a
 ·rename_i b f l;split at a
  ·rename_i o j;split at a
   ·rename_i m;rw [YA j (iD e)];have c:xc P gl b f o.op=some (v,st'):=by rw [<-jq,<-g]; exact a
    refine bJ g _ _ _ _ _ _ l (JD m (ZB c ?_));simp only [qr,l,Option.getD_some,yw,j]at h;exact h
   ·cases a
  ·cases a
 ·cases a
def kH (q:Option V) (st:St):Option (V×St):=match q with|some v=>some (v,st)|none=>none
def sn (b:T=ti P) {i:Nat} {fr:AFr} {st:St} (k:Nat) {q:Option V} {v:V} (e:q=some v) (a:Nat.ble i k=true) (c:Jl T gl ops i k fr st=kH q (qr T gl ops i k fr st).2)
  (h:u9 P gl ops (ops.toList.drop (k+1)) ((qr T gl ops i k fr st).1.put (yw ops k) v) (qr T gl ops i k fr st).2 K):u9 P gl ops (ops.toList.drop i) fr st K:=
 D0 b k (q:=some (v,(qr T gl ops i k fr st).2)) rfl a (by rw [c,e]; rfl) h
def J8 (T:TypeId->TI) (gl:Nat->List V) (ops:Array Oper) (i k:Nat) (fr:AFr) (st:St):Option (Nat×V):=
 match jP T gl ops (seg ops i k) fr st with
 | some (a,b)=>match ops.toList[k]? with
  | some o=>match o.guard with
   | some (j,_)=>match yw ops j with
    |some d=>some (d,yG a.l d)
    |none=>none
   |none=>none
  |none=>none
 |none=>none
def Jx (l:List (Nat×V)) (d:Nat) (h:yG l d≠ .junk):Zs l d (yG l d)=l:=by
 induction l with
 |nil=>simp [yG]at h
 | cons x r a=>
  obtain⟨k,v⟩:=x;simp only [yG,Zs]at *
  by_cases e:k=d
  ·simp [e]
  ·simp only [e,if_false]at *;rw [a h]
def nd (r:T=ti P) {i:Nat} {fr:AFr} {st:St} (k d:Nat) (b:Bool) (m:Nat.ble i k=true) (a:J8 T gl ops i k fr st=some (d, .bool b))
  (n:b=true->u9 P gl ops (ops.toList.drop k) ((qr T gl ops i k fr st).1.put (some d) (.bool true)) (qr T gl ops i k fr st).2 K)
  (l:b=false->u9 P gl ops (ops.toList.drop k) ((qr T gl ops i k fr st).1.put (some d) (.bool false)) (qr T gl ops i k fr st).2 K):u9 P gl ops (ops.toList.drop i) fr st K:=by
 unfold J8 at a;split at a
 ·rename_i e t p;split at a
  ·rename_i o c;split at a
   ·split at a
    ·rename_i dd s;injection a with a; injection a with j f;subst j;rw [YA c (iD m)];have g:=zB c
     have q:ops.toList.drop k=o::ops.toList.drop (k+1):=by
      rw [iM g];rw [iK g]at c; injection c with c; rw [c]
     rw [q]at n l;simp only [qr,p,Option.getD_some]at n l;refine bJ r _ _ _ _ _ _ p ?_
     have same:∀h,b=h->e.put (some dd) (.bool h)=e:=by
      rintro h rfl;simp only [AFr.put];split
      ·rw [<-f,Jx _ _ (by rw [f]; simp)]
      ·rfl
     cases b with
     |true=>have:=n rfl; rw [same true rfl]at this; exact this
     |false=>have:=l rfl; rw [same false rfl]at this; exact this
    ·cases a
   ·cases a
  ·cases a
 ·cases a
def WN (T:TypeId->TI) (gl:Nat->List V) (ops:Array Oper) (i k:Nat) (fr:AFr) (st:St):Option (FuncId×List V):=
 match jP T gl ops (seg ops i k) fr st with
 | some (a,c)=>match ops.toList[k]? with
  | some o=>match WI ops o a with
   | true=>match o.op with
    | .call ⟨.value f,b,_⟩=>ZJ (a.eval f) (b.toList.map a.eval)
    |_=>none
   |false=>none
  |none=>none
 |none=>none
def mQ (n:T=ti P) {i:Nat} {fr:AFr} {st:St} (k:Nat) {f:FuncId} {args:List V} {Q:V->St->Prop} (c:Nat.ble i k=true) (a:WN T gl ops i k fr st=some (f,args))
  (g:xO P gl f args (qr T gl ops i k fr st).2 Q)
  (h:∀r st',Q r st'->u9 P gl ops (ops.toList.drop (k+1)) ((qr T gl ops i k fr st).1.put (yw ops k) r) st' K):u9 P gl ops (ops.toList.drop i) fr st K:=by
 unfold WN at a;split at a
 ·rename_i m q l;split at a
  ·rename_i o j;split at a
   ·rename_i p;split at a
    ·rename_i fo b tys e;rw [YA j (iD c)];refine bJ n _ _ _ _ _ _ l (JD p ?_);simp only [qr,l,Option.getD_some,yw,j]at h g;unfold gI;rw [e];simp only;rw [a];exact g.mono h
    ·cases a
   ·cases a
  ·cases a
 ·cases a
def Out (r:V) (s:St):V->St->Prop:=fun a b=>a=r∧b=s
end
section
variable {st:St}
def zde (R:Ren) (st1 st:St):Bool:=
 (R.σ.length==st1.vars.length)&&(R.n==st.vars.length)&&(R.τ.length==st1.fams.length)&&(R.m==st.fams.length)&&decide R.σ.Nodup&&decide R.τ.Nodup
end
end Go.Abs
end
