/- Layer: an abstract reading of values and worlds, and that the model's operations, regions, loops and calls keep to it. No condition beyond each statement's own. -/
import Derived.Test.YtbggpcnbbhjiaaaGreatDoorA23
set_option linter.unusedVariables false
set_option linter.unusedSimpArgs false
set_option linter.unnecessarySimpa false
section
namespace Go.Abs
open Go.RowKit (Below)
def Ze (T:TypeId→TI) (gl:Nat→List V) (ops:Array Oper):List Oper→AFr→St→Option (AFr×St)
 | [],fr,st=>some (fr,st)
 | o ::r,fr,st=>match o.guard with
  | none=>match kl T gl fr st o.op with
   |some (v,st')=>Ze T gl ops r (fr.put o.dst v) st'
   |none=>none
  | some (j,want)=>match dB ops fr j with
   | some b=>if b=some want then(match kl T gl fr st o.op with
     |some (v,st')=>Ze T gl ops r (fr.put o.dst v) st'
     |none=>none)else Ze T gl ops r (fr.put o.dst (.tuple [])) st
   |none=>none
section
variable {P:Program} {T:TypeId→TI} {gl:Nat→List V} {ops:Array Oper} {K:AFr→St→Prop}
theorem eM {f:Operand} {args:Array Operand} {tys:Array TypeId} {fr:AFr} {st:St}:wW P gl fr st (.call ⟨.value f,args,tys⟩)=none:=by simp [wW]
theorem Jb {o:Oper} {fr:AFr} {st:St} {v:V} {st':St} {K:V→St→Prop} (h:wW P gl fr st o.op=some (v,st')) (k:K v st'):Ww P gl o fr st K:=by
 unfold Ww
 split
 ·rename_i f args tys he
  rw [he,eM]at h; cases h
 ·rw [h]; exact .inl k
theorem WL:∀(l:List Oper) (rest:List Oper) (fr:AFr) (st:St) (fr':AFr) (st':St),Ze (ti P) gl ops l fr st=some (fr',st')→dG P gl ops rest fr' st' K→dG P gl ops (l++rest) fr st K
 | [],rest,fr,st,fr',st',h,k=>by simp only [Ze]at h; injection h with h; injection h with h1 h2; subst h1 h2; exact k
 | o ::r,rest,fr,st,fr',st',h,k=>by
  simp only [Ze,dT]at h
  simp only [List.cons_append,dG]
  split at h
  ·rename_i hg
   rw [hg]
   split at h
   ·rename_i v st1 he
    exact Jb (K:=fun v st'=>dG P gl ops (r++rest) (fr.put o.dst v) st' K) he (WL r rest _ _ _ _ h k)
   ·cases h
  ·rename_i j want hg
   rw [hg]
   split at h
   ·rename_i b hb
    simp only [hb]
    split at h
    ·rename_i hw
     split at h
     ·rename_i v st1 he
      exact⟨fun _=>Jb (K:=fun v st'=>dG P gl ops (r++rest) (fr.put o.dst v) st' K) he (WL r rest _ _ _ _ h k),fun hn=>absurd hw hn⟩
     ·cases h
    ·rename_i hw
     exact⟨fun hn=>absurd hn hw,fun _=>WL r rest _ _ _ _ h k⟩
   ·cases h
theorem Yu (hT:T=ti P) (l rest:List Oper) (fr:AFr) (st:St) (fr':AFr) (st':St) (h:Ze T gl ops l fr st=some (fr',st')) (k:dG P gl ops rest fr' st' K):dG P gl ops (l++rest) fr st K:=by
 subst hT; exact WL l rest fr st fr' st' h k
def seg (ops:Array Oper) (i k:Nat):List Oper:=(ops.toList.drop i).take (k-i)
def pY (T:TypeId→TI) (gl:Nat→List V) (ops:Array Oper) (i k:Nat) (fr:AFr) (st:St):AFr×St:=(Ze T gl ops (seg ops i k) fr st).getD (⟨0,[]⟩,⟨[],[]⟩)
def xC (ops:Array Oper) (k:Nat):Option Tmp:=match ops.toList[k]? with|some o=>o.dst|none=>none
def JD (ops:Array Oper) (o:Oper) (fr:AFr):Bool:=match o.guard with
 |none=>true
 |some (j,want)=>match dB ops fr j with|some b=>decide (b=some want)|none=>false
def BW (T:TypeId→TI) (gl:Nat→List V) (ops:Array Oper) (i k:Nat) (fr:AFr) (st:St):Option (V×St):=
 match Ze T gl ops (seg ops i k) fr st with
 | some (fr1,st1)=>match ops.toList[k]? with
  |some o=>match JD ops o fr1 with|true=>kl T gl fr1 st1 o.op|false=>none
  |none=>none
 |none=>none
theorem V0 {ops:Array Oper} {i k:Nat} {o:Oper} (hk:ops.toList[k]? =some o) (hik:i≤k):ops.toList.drop i=seg ops i k++o::ops.toList.drop (k+1):=by
 have hlt:=zV hk
 have h1:ops.toList.drop i=(ops.toList.drop i).take (k-i)++(ops.toList.drop i).drop (k-i):=(List.take_append_drop _ _).symm
 rw [h1,List.drop_drop,show i+(k-i)=k by omega,List.drop_eq_getElem_cons hlt]
 rw [List.getElem?_eq_getElem hlt]at hk; injection hk with hk; rw [hk]
 rfl
theorem KC {o:Oper} {rest:List Oper} {fr:AFr} {st:St} (h:JD ops o fr=true) (k:Ww P gl o fr st fun v st'=>dG P gl ops rest (fr.put o.dst v) st' K):dG P gl ops (o::rest) fr st K:=by
 simp only [dG]
 unfold JD at h
 split at h
 ·rename_i hg; rw [hg]; exact k
 ·rename_i j want hg
  rw [hg]
  simp only
  split at h
  ·rename_i b hb
   rw [hb]
   exact⟨fun _=>k,fun hn=>absurd (of_decide_eq_true h) hn⟩
  ·cases h
theorem PJ (hT:T=ti P) {i:Nat} {fr:AFr} {st:St} (k:Nat) {q:Option (V×St)} {v:V} {st':St} (hq:q=some (v,st')) (hik:Nat.ble i k=true) (he:BW T gl ops i k fr st=q)
  (h:dG P gl ops (ops.toList.drop (k+1)) ((pY T gl ops i k fr st).1.put (xC ops k) v) st' K):dG P gl ops (ops.toList.drop i) fr st K:=by
 subst hq
 unfold BW at he
 split at he
 ·rename_i fr1 st1 hr
  split at he
  ·rename_i o ho
   split at he
   ·rename_i hb
    rw [V0 ho (Nat.le_of_ble_eq_true hik)]
    have he':wW P gl fr1 st1 o.op=some (v,st'):=by rw [←dT,←hT]; exact he
    refine Yu hT _ _ _ _ _ _ hr (KC hb (Jb he' ?_))
    simp only [pY,hr,Option.getD_some,xC,ho]at h
    exact h
   ·cases he
  ·cases he
 ·cases he
def Z1 (q:Option V) (st:St):Option (V×St):=match q with|some v=>some (v,st)|none=>none
theorem za4 (hT:T=ti P) {i:Nat} {fr:AFr} {st:St} (k:Nat) {q:Option V} {v:V} (hq:q=some v) (hik:Nat.ble i k=true) (he:BW T gl ops i k fr st=Z1 q (pY T gl ops i k fr st).2)
  (h:dG P gl ops (ops.toList.drop (k+1)) ((pY T gl ops i k fr st).1.put (xC ops k) v) (pY T gl ops i k fr st).2 K):dG P gl ops (ops.toList.drop i) fr st K:=
 PJ hT k (q:=some (v,(pY T gl ops i k fr st).2)) rfl hik (by rw [he,hq]; rfl) h
def Pb (T:TypeId→TI) (gl:Nat→List V) (ops:Array Oper) (i k:Nat) (fr:AFr) (st:St):Option (Nat×V):=
 match Ze T gl ops (seg ops i k) fr st with
 | some (fr1,st1)=>match ops.toList[k]? with
  | some o=>match o.guard with
   | some (j,_)=>match xC ops j with
    |some d=>some (d,ub fr1.l d)
    |none=>none
   |none=>none
  |none=>none
 |none=>none
theorem Dw (l:List (Nat×V)) (d:Nat) (h:ub l d≠ .junk):Df l d (ub l d)=l:=by
 induction l with
 |nil=>simp [ub]at h
 | cons x r ih=>
  obtain⟨k,v⟩:=x
  simp only [ub,Df]at *
  by_cases e:k=d
  ·simp [e]
  ·simp only [e,if_false]at *
   rw [ih h]
theorem tg (hT:T=ti P) {i:Nat} {fr:AFr} {st:St} (k d:Nat) (b:Bool) (hik:Nat.ble i k=true) (he:Pb T gl ops i k fr st=some (d, .bool b))
  (ht:b=true→dG P gl ops (ops.toList.drop k) ((pY T gl ops i k fr st).1.put (some d) (.bool true)) (pY T gl ops i k fr st).2 K)
  (hf:b=false→dG P gl ops (ops.toList.drop k) ((pY T gl ops i k fr st).1.put (some d) (.bool false)) (pY T gl ops i k fr st).2 K):dG P gl ops (ops.toList.drop i) fr st K:=by
 unfold Pb at he
 split at he
 ·rename_i fr1 st1 hr
  split at he
  ·rename_i o ho
   split at he
   ·split at he
    ·rename_i dd hdd
     injection he with he; injection he with he1 he2
     subst he1
     rw [V0 ho (Nat.le_of_ble_eq_true hik)]
     have hlt:=zV ho
     have e1:ops.toList.drop k=o::ops.toList.drop (k+1):=by
      rw [List.drop_eq_getElem_cons hlt]
      rw [List.getElem?_eq_getElem hlt]at ho; injection ho with ho; rw [ho]
     rw [e1]at ht hf
     simp only [pY,hr,Option.getD_some]at ht hf
     refine Yu hT _ _ _ _ _ _ hr ?_
     have same:∀b',b=b'→fr1.put (some dd) (.bool b')=fr1:=by
      rintro b' rfl
      simp only [AFr.put]
      split
      ·rw [←he2,Dw _ _ (by rw [he2]; simp)]
      ·rfl
     cases b with
     |true=>have:=ht rfl; rw [same true rfl]at this; exact this
     |false=>have:=hf rfl; rw [same false rfl]at this; exact this
    ·cases he
   ·cases he
  ·cases he
 ·cases he
def Bb (T:TypeId→TI) (gl:Nat→List V) (ops:Array Oper) (i k:Nat) (fr:AFr) (st:St):Option (FuncId×List V):=
 match Ze T gl ops (seg ops i k) fr st with
 | some (fr1,st1)=>match ops.toList[k]? with
  | some o=>match JD ops o fr1 with
   | true=>match o.op with
    | .call ⟨.value f,args,_⟩=>Je (fr1.eval f) (args.toList.map fr1.eval)
    |_=>none
   |false=>none
  |none=>none
 |none=>none
theorem s9 (hT:T=ti P) {i:Nat} {fr:AFr} {st:St} (k:Nat) {f:FuncId} {args:List V} {Q:V→St→Prop} (hik:Nat.ble i k=true) (he:Bb T gl ops i k fr st=some (f,args))
  (hc:uQ P gl f args (pY T gl ops i k fr st).2 Q)
  (h:∀r st',Q r st'→dG P gl ops (ops.toList.drop (k+1)) ((pY T gl ops i k fr st).1.put (xC ops k) r) st' K):dG P gl ops (ops.toList.drop i) fr st K:=by
 unfold Bb at he
 split at he
 ·rename_i fr1 st1 hr
  split at he
  ·rename_i o ho
   split at he
   ·rename_i hb
    split at he
    ·rename_i fo cargs tys hop
     rw [V0 ho (Nat.le_of_ble_eq_true hik)]
     refine Yu hT _ _ _ _ _ _ hr (KC hb ?_)
     simp only [pY,hr,Option.getD_some,xC,ho]at h hc
     unfold Ww
     rw [hop]
     simp only
     rw [he]
     exact hc.mono h
    ·cases he
   ·cases he
  ·cases he
 ·cases he
def Out (r:V) (s:St):V→St→Prop:=fun r' s'=>r'=r∧s'=s
end
section
variable {st:St}
def zeV (R:Ren) (st1 st:St):Bool:=
 (R.σ.length==st1.vars.length)&&(R.n==st.vars.length)&&(R.τ.length==st1.fams.length)&&(R.m==st.fams.length)&&decide R.σ.Nodup&&decide R.τ.Nodup
end
end Go.Abs
end
