/- Layer: an abstract reading of values and worlds, and that the model's operations, regions, loops and calls keep to it. No condition beyond each statement's own. -/
import Derived.Test.YtbggpcnbbhjiaaaGreatDoorA23
set_option linter.unusedVariables false
set_option linter.unusedSimpArgs false
set_option linter.unnecessarySimpa false
section
namespace Go.Abs
open Go.RowKit (Below)
def kY (T:TypeId→TI) (gl:Nat→List V) (ops:Array Oper):List Oper→AFr→St→Option (AFr×St)
 | [],fr,st=>some (fr,st)
 | o ::r,fr,st=>match o.guard with
  | none=>match uW T gl fr st o.op with
   |some (v,st')=>kY T gl ops r (fr.put o.dst v) st'
   |none=>none
  | some (j,want)=>match qh ops fr j with
   | some b=>if b=some want then(match uW T gl fr st o.op with
     |some (v,st')=>kY T gl ops r (fr.put o.dst v) st'
     |none=>none)else kY T gl ops r (fr.put o.dst (.tuple [])) st
   |none=>none
section
variable {P:Program} {T:TypeId→TI} {gl:Nat→List V} {ops:Array Oper} {K:AFr→St→Prop}
theorem QH {f:Operand} {args:Array Operand} {tys:Array TypeId} {fr:AFr} {st:St}:xN P gl fr st (.call ⟨.value f,args,tys⟩)=none:=by simp [xN]
theorem Ya {o:Oper} {fr:AFr} {st:St} {v:V} {st':St} {K:V→St→Prop} (h:xN P gl fr st o.op=some (v,st')) (k:K v st'):dY P gl o fr st K:=by
 unfold dY
 split
 ·rename_i f args tys he
  rw [he,QH]at h; cases h
 ·rw [h]; exact .inl k
theorem pe:∀(l:List Oper) (rest:List Oper) (fr:AFr) (st:St) (fr':AFr) (st':St),kY (ti P) gl ops l fr st=some (fr',st')→qH P gl ops rest fr' st' K→qH P gl ops (l++rest) fr st K
 | [],rest,fr,st,fr',st',h,k=>by simp only [kY]at h; injection h with h; injection h with h1 h2; subst h1 h2; exact k
 | o ::r,rest,fr,st,fr',st',h,k=>by
  simp only [kY,qC]at h
  simp only [List.cons_append,qH]
  split at h
  ·rename_i hg
   rw [hg]
   split at h
   ·rename_i v st1 he
    exact Ya (K:=fun v st'=>qH P gl ops (r++rest) (fr.put o.dst v) st' K) he (pe r rest _ _ _ _ h k)
   ·cases h
  ·rename_i j want hg
   rw [hg]
   split at h
   ·rename_i b hb
    simp only [hb]
    split at h
    ·rename_i hw
     split at h
     ·rename_i v st1 he
      exact⟨fun _=>Ya (K:=fun v st'=>qH P gl ops (r++rest) (fr.put o.dst v) st' K) he (pe r rest _ _ _ _ h k),fun hn=>absurd hw hn⟩
     ·cases h
    ·rename_i hw
     exact⟨fun hn=>absurd hn hw,fun _=>pe r rest _ _ _ _ h k⟩
   ·cases h
theorem dq (hT:T=ti P) (l rest:List Oper) (fr:AFr) (st:St) (fr':AFr) (st':St) (h:kY T gl ops l fr st=some (fr',st')) (k:qH P gl ops rest fr' st' K):qH P gl ops (l++rest) fr st K:=by
 subst hT; exact pe l rest fr st fr' st' h k
def seg (ops:Array Oper) (i k:Nat):List Oper:=(ops.toList.drop i).take (k-i)
def bD (T:TypeId→TI) (gl:Nat→List V) (ops:Array Oper) (i k:Nat) (fr:AFr) (st:St):AFr×St:=(kY T gl ops (seg ops i k) fr st).getD (⟨0,[]⟩,⟨[],[]⟩)
def xt (ops:Array Oper) (k:Nat):Option Tmp:=match ops.toList[k]? with|some o=>o.dst|none=>none
def Yw (ops:Array Oper) (o:Oper) (fr:AFr):Bool:=match o.guard with
 |none=>true
 |some (j,want)=>match qh ops fr j with|some b=>decide (b=some want)|none=>false
def UO (T:TypeId→TI) (gl:Nat→List V) (ops:Array Oper) (i k:Nat) (fr:AFr) (st:St):Option (V×St):=
 match kY T gl ops (seg ops i k) fr st with
 | some (fr1,st1)=>match ops.toList[k]? with
  |some o=>match Yw ops o fr1 with|true=>uW T gl fr1 st1 o.op|false=>none
  |none=>none
 |none=>none
theorem Zg {ops:Array Oper} {i k:Nat} {o:Oper} (hk:ops.toList[k]? =some o) (hik:i≤k):ops.toList.drop i=seg ops i k++o::ops.toList.drop (k+1):=by
 have hlt:=zE hk
 have h1:ops.toList.drop i=(ops.toList.drop i).take (k-i)++(ops.toList.drop i).drop (k-i):=(List.take_append_drop _ _).symm
 rw [h1,List.drop_drop,show i+(k-i)=k by omega,List.drop_eq_getElem_cons hlt]
 rw [List.getElem?_eq_getElem hlt]at hk; injection hk with hk; rw [hk]
 rfl
theorem XR {o:Oper} {rest:List Oper} {fr:AFr} {st:St} (h:Yw ops o fr=true) (k:dY P gl o fr st fun v st'=>qH P gl ops rest (fr.put o.dst v) st' K):qH P gl ops (o::rest) fr st K:=by
 simp only [qH]
 unfold Yw at h
 split at h
 ·rename_i hg; rw [hg]; exact k
 ·rename_i j want hg
  rw [hg]
  simp only
  split at h
  ·rename_i b hb
   rw [hb]
   exact⟨fun _=>k,fun hn=>absurd (of_decide_eq_true h) hn⟩
  ·cases h
theorem K4 (hT:T=ti P) {i:Nat} {fr:AFr} {st:St} (k:Nat) {q:Option (V×St)} {v:V} {st':St} (hq:q=some (v,st')) (hik:Nat.ble i k=true) (he:UO T gl ops i k fr st=q)
  (h:qH P gl ops (ops.toList.drop (k+1)) ((bD T gl ops i k fr st).1.put (xt ops k) v) st' K):qH P gl ops (ops.toList.drop i) fr st K:=by
 subst hq
 unfold UO at he
 split at he
 ·rename_i fr1 st1 hr
  split at he
  ·rename_i o ho
   split at he
   ·rename_i hb
    rw [Zg ho (Nat.le_of_ble_eq_true hik)]
    have he':xN P gl fr1 st1 o.op=some (v,st'):=by rw [←qC,←hT]; exact he
    refine dq hT _ _ _ _ _ _ hr (XR hb (Ya he' ?_))
    simp only [bD,hr,Option.getD_some,xt,ho]at h
    exact h
   ·cases he
  ·cases he
 ·cases he
def dB (q:Option V) (st:St):Option (V×St):=match q with|some v=>some (v,st)|none=>none
theorem Pm (hT:T=ti P) {i:Nat} {fr:AFr} {st:St} (k:Nat) {q:Option V} {v:V} (hq:q=some v) (hik:Nat.ble i k=true) (he:UO T gl ops i k fr st=dB q (bD T gl ops i k fr st).2)
  (h:qH P gl ops (ops.toList.drop (k+1)) ((bD T gl ops i k fr st).1.put (xt ops k) v) (bD T gl ops i k fr st).2 K):qH P gl ops (ops.toList.drop i) fr st K:=
 K4 hT k (q:=some (v,(bD T gl ops i k fr st).2)) rfl hik (by rw [he,hq]; rfl) h
def U8 (T:TypeId→TI) (gl:Nat→List V) (ops:Array Oper) (i k:Nat) (fr:AFr) (st:St):Option (Nat×V):=
 match kY T gl ops (seg ops i k) fr st with
 | some (fr1,st1)=>match ops.toList[k]? with
  | some o=>match o.guard with
   | some (j,_)=>match xt ops j with
    |some d=>some (d,xy fr1.l d)
    |none=>none
   |none=>none
  |none=>none
 |none=>none
theorem UV (l:List (Nat×V)) (d:Nat) (h:xy l d≠ .junk):Ul l d (xy l d)=l:=by
 induction l with
 |nil=>simp [xy]at h
 | cons x r ih=>
  obtain⟨k,v⟩:=x
  simp only [xy,Ul]at *
  by_cases e:k=d
  ·simp [e]
  ·simp only [e,if_false]at *
   rw [ih h]
theorem G8 (hT:T=ti P) {i:Nat} {fr:AFr} {st:St} (k d:Nat) (b:Bool) (hik:Nat.ble i k=true) (he:U8 T gl ops i k fr st=some (d,.bool b))
  (ht:b=true→qH P gl ops (ops.toList.drop k) ((bD T gl ops i k fr st).1.put (some d) (.bool true)) (bD T gl ops i k fr st).2 K)
  (hf:b=false→qH P gl ops (ops.toList.drop k) ((bD T gl ops i k fr st).1.put (some d) (.bool false)) (bD T gl ops i k fr st).2 K):qH P gl ops (ops.toList.drop i) fr st K:=by
 unfold U8 at he
 split at he
 ·rename_i fr1 st1 hr
  split at he
  ·rename_i o ho
   split at he
   ·split at he
    ·rename_i dd hdd
     injection he with he; injection he with he1 he2
     subst he1
     rw [Zg ho (Nat.le_of_ble_eq_true hik)]
     have hlt:=zE ho
     have e1:ops.toList.drop k=o::ops.toList.drop (k+1):=by
      rw [List.drop_eq_getElem_cons hlt]
      rw [List.getElem?_eq_getElem hlt]at ho; injection ho with ho; rw [ho]
     rw [e1]at ht hf
     simp only [bD,hr,Option.getD_some]at ht hf
     refine dq hT _ _ _ _ _ _ hr ?_
     have same:∀b',b=b'→fr1.put (some dd) (.bool b')=fr1:=by
      rintro b' rfl
      simp only [AFr.put]
      split
      ·rw [←he2,UV _ _ (by rw [he2]; simp)]
      ·rfl
     cases b with
     |true=>have:=ht rfl; rw [same true rfl]at this; exact this
     |false=>have:=hf rfl; rw [same false rfl]at this; exact this
    ·cases he
   ·cases he
  ·cases he
 ·cases he
def WJ (T:TypeId→TI) (gl:Nat→List V) (ops:Array Oper) (i k:Nat) (fr:AFr) (st:St):Option (FuncId×List V):=
 match kY T gl ops (seg ops i k) fr st with
 | some (fr1,st1)=>match ops.toList[k]? with
  | some o=>match Yw ops o fr1 with
   | true=>match o.op with
    | .call ⟨.value f,args,_⟩=>Ye (fr1.eval f) (args.toList.map fr1.eval)
    |_=>none
   |false=>none
  |none=>none
 |none=>none
theorem Dl (hT:T=ti P) {i:Nat} {fr:AFr} {st:St} (k:Nat) {f:FuncId} {args:List V} {Q:V→St→Prop} (hik:Nat.ble i k=true) (he:WJ T gl ops i k fr st=some (f,args))
  (hc:wj P gl f args (bD T gl ops i k fr st).2 Q)
  (h:∀r st',Q r st'→qH P gl ops (ops.toList.drop (k+1)) ((bD T gl ops i k fr st).1.put (xt ops k) r) st' K):qH P gl ops (ops.toList.drop i) fr st K:=by
 unfold WJ at he
 split at he
 ·rename_i fr1 st1 hr
  split at he
  ·rename_i o ho
   split at he
   ·rename_i hb
    split at he
    ·rename_i fo cargs tys hop
     rw [Zg ho (Nat.le_of_ble_eq_true hik)]
     refine dq hT _ _ _ _ _ _ hr (XR hb ?_)
     simp only [bD,hr,Option.getD_some,xt,ho]at h hc
     unfold dY
     rw [hop]
     simp only
     rw [he]
     exact hc.mono h
    ·cases he
   ·cases he
  ·cases he
 ·cases he
def Out (r:V) (s:St):V→St→Prop:=fun r' s'=>r'=r∧s'=s
end
section
variable {st:St}
theorem Emb.pure (n m:Nat) (h1:n=st.vars.length) (h2:m=st.fams.length):Emb ⟨[],n,[],m⟩ ⟨[],[]⟩ st:=
 ⟨rfl,h1,rfl,h2,.nil,.nil,fun k cs h=>by simp at h,fun k p h=>by simp at h⟩
def DP (R:Ren) (st1 st:St):List Nat→List (List V)→Prop
 |i::σ,cs::r=>V.scs st1 cs∧(∃d,st.vars[i]? =some d∧gt (V.rens R cs) d)∧DP R st1 st σ r
 | [],[]=>True
 |_,_=>False
theorem DP.get {R:Ren} {st1 st:St}:∀ {σ:List Nat} {l:List (List V)},DP R st1 st σ l→∀(k:Nat) (cs:List V),l[k]? =some cs→V.scs st1 cs∧∃i d,σ[k]? =some i∧st.vars[i]? =some d∧gt (V.rens R cs) d
 | i::σ,c::r,h,0,cs,hk=>by
  simp at hk; subst hk
  obtain⟨h1,⟨d,h2,h3⟩,_⟩:=h
  exact⟨h1,i,d,rfl,h2,h3⟩
 |i::σ,c::r,h,k+1,cs,hk=>by simpa using DP.get h.2.2 k cs (by simpa using hk)
 | [],[],_,k,cs,hk=>by simp at hk
 | [],_::_,h,_,_,_=>h.elim
 |_::_,[],h,_,_,_=>h.elim
def PH (R:Ren) (st1 st:St):Bool:=
 (R.σ.length==st1.vars.length)&&(R.n==st.vars.length)&&(R.τ.length==st1.fams.length)&&(R.m==st.fams.length)&&decide R.σ.Nodup&&decide R.τ.Nodup
theorem Emb.vs {R:Ren} {st1 st:St} (h1:PH R st1 st=true) (h2:DP R st1 st R.σ st1.vars) (h3:R.τ.map (fun i=>st.fams[i]?)=st1.fams.map some):Emb R st1 st:=by
 simp only [PH,Bool.and_eq_true,beq_iff_eq,decide_eq_true_eq]at h1
 obtain⟨⟨⟨⟨⟨a1,a2⟩,a3⟩,a4⟩,a5⟩,a6⟩:=h1
 refine⟨a1,a2,a3,a4,a5,a6,fun k cs h=>h2.get k cs h,?_⟩
 intro k p hp
 have hk:k<R.τ.length:=by rw [a3]; exact zE hp
 have:=congrArg (fun l=>l[k]?) h3
 simp only [List.getElem?_map,hp,List.getElem?_eq_getElem hk,Option.map_some,Option.some.injEq]at this
 exact⟨_,List.getElem?_eq_getElem hk,this⟩
end
end Go.Abs
end
