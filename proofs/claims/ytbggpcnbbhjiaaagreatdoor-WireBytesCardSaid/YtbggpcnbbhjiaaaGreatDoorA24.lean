/- Layer: an abstract reading of values and worlds, and that the model's operations, regions, loops and calls keep to it. No condition beyond each statement's own. -/
import Derived.Test.YtbggpcnbbhjiaaaGreatDoorA23
set_option linter.unusedVariables false
set_option linter.unusedSimpArgs false
set_option linter.unnecessarySimpa false
section
namespace Go.Abs
open Go.RowKit (Below)
def pC (T:TypeId→TI) (gl:Nat→List V) (ops:Array Oper):List Oper→AFr→St→Option (AFr×St)
 | [],fr,st=>some (fr,st)
 | o ::r,fr,st=>match o.guard with
  | none=>match qM T gl fr st o.op with
   |some (v,st')=>pC T gl ops r (fr.put o.dst v) st'
   |none=>none
  | some (j,want)=>match gW ops fr j with
   | some b=>if b=some want then(match qM T gl fr st o.op with
     |some (v,st')=>pC T gl ops r (fr.put o.dst v) st'
     |none=>none)else pC T gl ops r (fr.put o.dst (.tuple [])) st
   |none=>none
section
variable {P:Program} {T:TypeId→TI} {gl:Nat→List V} {ops:Array Oper} {K:AFr→St→Prop}
theorem PQ {f:Operand} {args:Array Operand} {tys:Array TypeId} {fr:AFr} {st:St}:wV P gl fr st (.call ⟨.value f,args,tys⟩)=none:=by simp [wV]
theorem Uf {o:Oper} {fr:AFr} {st:St} {v:V} {st':St} {K:V→St→Prop} (h:wV P gl fr st o.op=some (v,st')) (k:K v st'):XF P gl o fr st K:=by
 unfold XF
 split
 ·rename_i f args tys he
  rw [he,PQ]at h; cases h
 ·rw [h]; exact .inl k
theorem XO:∀(l:List Oper) (rest:List Oper) (fr:AFr) (st:St) (fr':AFr) (st':St),pC (ti P) gl ops l fr st=some (fr',st')→dw P gl ops rest fr' st' K→dw P gl ops (l++rest) fr st K
 | [],rest,fr,st,fr',st',h,k=>by simp only [pC]at h; injection h with h; injection h with h1 h2; subst h1 h2; exact k
 | o ::r,rest,fr,st,fr',st',h,k=>by
  simp only [pC,dk]at h
  simp only [List.cons_append,dw]
  split at h
  ·rename_i hg
   rw [hg]
   split at h
   ·rename_i v st1 he
    exact Uf (K:=fun v st'=>dw P gl ops (r++rest) (fr.put o.dst v) st' K) he (XO r rest _ _ _ _ h k)
   ·cases h
  ·rename_i j want hg
   rw [hg]
   split at h
   ·rename_i b hb
    simp only [hb]
    split at h
    ·rename_i hw
     split at h
     ·rename_i v st1 he
      exact⟨fun _=>Uf (K:=fun v st'=>dw P gl ops (r++rest) (fr.put o.dst v) st' K) he (XO r rest _ _ _ _ h k),fun hn=>absurd hw hn⟩
     ·cases h
    ·rename_i hw
     exact⟨fun hn=>absurd hn hw,fun _=>XO r rest _ _ _ _ h k⟩
   ·cases h
theorem ZX (hT:T=ti P) (l rest:List Oper) (fr:AFr) (st:St) (fr':AFr) (st':St) (h:pC T gl ops l fr st=some (fr',st')) (k:dw P gl ops rest fr' st' K):dw P gl ops (l++rest) fr st K:=by
 subst hT; exact XO l rest fr st fr' st' h k
def seg (ops:Array Oper) (i k:Nat):List Oper:=(ops.toList.drop i).take (k-i)
def ZG (T:TypeId→TI) (gl:Nat→List V) (ops:Array Oper) (i k:Nat) (fr:AFr) (st:St):AFr×St:=(pC T gl ops (seg ops i k) fr st).getD (⟨0,[]⟩,⟨[],[]⟩)
def xZ (ops:Array Oper) (k:Nat):Option Tmp:=match ops.toList[k]? with|some o=>o.dst|none=>none
def UH (ops:Array Oper) (o:Oper) (fr:AFr):Bool:=match o.guard with
 |none=>true
 |some (j,want)=>match gW ops fr j with|some b=>decide (b=some want)|none=>false
def B9 (T:TypeId→TI) (gl:Nat→List V) (ops:Array Oper) (i k:Nat) (fr:AFr) (st:St):Option (V×St):=
 match pC T gl ops (seg ops i k) fr st with
 | some (fr1,st1)=>match ops.toList[k]? with
  |some o=>match UH ops o fr1 with|true=>qM T gl fr1 st1 o.op|false=>none
  |none=>none
 |none=>none
theorem W4 {ops:Array Oper} {i k:Nat} {o:Oper} (hk:ops.toList[k]? =some o) (hik:i≤k):ops.toList.drop i=seg ops i k++o::ops.toList.drop (k+1):=by
 have hlt:=zR hk
 have h1:ops.toList.drop i=(ops.toList.drop i).take (k-i)++(ops.toList.drop i).drop (k-i):=(List.take_append_drop _ _).symm
 rw [h1,List.drop_drop,show i+(k-i)=k by omega,List.drop_eq_getElem_cons hlt]
 rw [List.getElem?_eq_getElem hlt]at hk; injection hk with hk; rw [hk]
 rfl
theorem QG {o:Oper} {rest:List Oper} {fr:AFr} {st:St} (h:UH ops o fr=true) (k:XF P gl o fr st fun v st'=>dw P gl ops rest (fr.put o.dst v) st' K):dw P gl ops (o::rest) fr st K:=by
 simp only [dw]
 unfold UH at h
 split at h
 ·rename_i hg; rw [hg]; exact k
 ·rename_i j want hg
  rw [hg]
  simp only
  split at h
  ·rename_i b hb
   rw [hb]
   exact⟨fun _=>k,fun hn=>absurd (of_decide_eq_true h) hn⟩
  ·cases h
theorem fC (hT:T=ti P) {i:Nat} {fr:AFr} {st:St} (k:Nat) {q:Option (V×St)} {v:V} {st':St} (hq:q=some (v,st')) (hik:Nat.ble i k=true) (he:B9 T gl ops i k fr st=q)
  (h:dw P gl ops (ops.toList.drop (k+1)) ((ZG T gl ops i k fr st).1.put (xZ ops k) v) st' K):dw P gl ops (ops.toList.drop i) fr st K:=by
 subst hq
 unfold B9 at he
 split at he
 ·rename_i fr1 st1 hr
  split at he
  ·rename_i o ho
   split at he
   ·rename_i hb
    rw [W4 ho (Nat.le_of_ble_eq_true hik)]
    have he':wV P gl fr1 st1 o.op=some (v,st'):=by rw [←dk,←hT]; exact he
    refine ZX hT _ _ _ _ _ _ hr (QG hb (Uf he' ?_))
    simp only [ZG,hr,Option.getD_some,xZ,ho]at h
    exact h
   ·cases he
  ·cases he
 ·cases he
def Zw (q:Option V) (st:St):Option (V×St):=match q with|some v=>some (v,st)|none=>none
theorem tv (hT:T=ti P) {i:Nat} {fr:AFr} {st:St} (k:Nat) {q:Option V} {v:V} (hq:q=some v) (hik:Nat.ble i k=true) (he:B9 T gl ops i k fr st=Zw q (ZG T gl ops i k fr st).2)
  (h:dw P gl ops (ops.toList.drop (k+1)) ((ZG T gl ops i k fr st).1.put (xZ ops k) v) (ZG T gl ops i k fr st).2 K):dw P gl ops (ops.toList.drop i) fr st K:=
 fC hT k (q:=some (v,(ZG T gl ops i k fr st).2)) rfl hik (by rw [he,hq]; rfl) h
def G8 (T:TypeId→TI) (gl:Nat→List V) (ops:Array Oper) (i k:Nat) (fr:AFr) (st:St):Option (Nat×V):=
 match pC T gl ops (seg ops i k) fr st with
 | some (fr1,st1)=>match ops.toList[k]? with
  | some o=>match o.guard with
   | some (j,_)=>match xZ ops j with
    |some d=>some (d,vV fr1.l d)
    |none=>none
   |none=>none
  |none=>none
 |none=>none
theorem Gm (l:List (Nat×V)) (d:Nat) (h:vV l d≠ .junk):B3 l d (vV l d)=l:=by
 induction l with
 |nil=>simp [vV]at h
 | cons x r ih=>
  obtain⟨k,v⟩:=x
  simp only [vV,B3]at *
  by_cases e:k=d
  ·simp [e]
  ·simp only [e,if_false]at *
   rw [ih h]
theorem rG (hT:T=ti P) {i:Nat} {fr:AFr} {st:St} (k d:Nat) (b:Bool) (hik:Nat.ble i k=true) (he:G8 T gl ops i k fr st=some (d, .bool b))
  (ht:b=true→dw P gl ops (ops.toList.drop k) ((ZG T gl ops i k fr st).1.put (some d) (.bool true)) (ZG T gl ops i k fr st).2 K)
  (hf:b=false→dw P gl ops (ops.toList.drop k) ((ZG T gl ops i k fr st).1.put (some d) (.bool false)) (ZG T gl ops i k fr st).2 K):dw P gl ops (ops.toList.drop i) fr st K:=by
 unfold G8 at he
 split at he
 ·rename_i fr1 st1 hr
  split at he
  ·rename_i o ho
   split at he
   ·split at he
    ·rename_i dd hdd
     injection he with he; injection he with he1 he2
     subst he1
     rw [W4 ho (Nat.le_of_ble_eq_true hik)]
     have hlt:=zR ho
     have e1:ops.toList.drop k=o::ops.toList.drop (k+1):=by
      rw [List.drop_eq_getElem_cons hlt]
      rw [List.getElem?_eq_getElem hlt]at ho; injection ho with ho; rw [ho]
     rw [e1]at ht hf
     simp only [ZG,hr,Option.getD_some]at ht hf
     refine ZX hT _ _ _ _ _ _ hr ?_
     have same:∀b',b=b'→fr1.put (some dd) (.bool b')=fr1:=by
      rintro b' rfl
      simp only [AFr.put]
      split
      ·rw [←he2,Gm _ _ (by rw [he2]; simp)]
      ·rfl
     cases b with
     |true=>have:=ht rfl; rw [same true rfl]at this; exact this
     |false=>have:=hf rfl; rw [same false rfl]at this; exact this
    ·cases he
   ·cases he
  ·cases he
 ·cases he
def Kc (T:TypeId→TI) (gl:Nat→List V) (ops:Array Oper) (i k:Nat) (fr:AFr) (st:St):Option (FuncId×List V):=
 match pC T gl ops (seg ops i k) fr st with
 | some (fr1,st1)=>match ops.toList[k]? with
  | some o=>match UH ops o fr1 with
   | true=>match o.op with
    | .call ⟨.value f,args,_⟩=>Uk (fr1.eval f) (args.toList.map fr1.eval)
    |_=>none
   |false=>none
  |none=>none
 |none=>none
theorem ry (hT:T=ti P) {i:Nat} {fr:AFr} {st:St} (k:Nat) {f:FuncId} {args:List V} {Q:V→St→Prop} (hik:Nat.ble i k=true) (he:Kc T gl ops i k fr st=some (f,args))
  (hc:uR P gl f args (ZG T gl ops i k fr st).2 Q)
  (h:∀r st',Q r st'→dw P gl ops (ops.toList.drop (k+1)) ((ZG T gl ops i k fr st).1.put (xZ ops k) r) st' K):dw P gl ops (ops.toList.drop i) fr st K:=by
 unfold Kc at he
 split at he
 ·rename_i fr1 st1 hr
  split at he
  ·rename_i o ho
   split at he
   ·rename_i hb
    split at he
    ·rename_i fo cargs tys hop
     rw [W4 ho (Nat.le_of_ble_eq_true hik)]
     refine ZX hT _ _ _ _ _ _ hr (QG hb ?_)
     simp only [ZG,hr,Option.getD_some,xZ,ho]at h hc
     unfold XF
     rw [hop]
     simp only
     rw [he]
     exact hc.mono h
    ·cases he
   ·cases he
  ·cases he
 ·cases he
def Out (r:V) (s:St):V→St→Prop:=fun r' s'=>r'=r∧s'=s
end
section
variable {st:St}
def zdm (R:Ren) (st1 st:St):Bool:=
 (R.σ.length==st1.vars.length)&&(R.n==st.vars.length)&&(R.τ.length==st1.fams.length)&&(R.m==st.fams.length)&&decide R.σ.Nodup&&decide R.τ.Nodup
end
end Go.Abs
end
