/- Layer: an abstract reading of values and worlds, and that the model's operations, regions, loops and calls keep to it. No condition beyond each statement's own. -/
import Derived.Test.YtbggpcnbbhjiaaaGreatDoorA23
set_option linter.unusedVariables false
set_option linter.unusedSimpArgs false
set_option linter.unnecessarySimpa false
section
namespace Go.Abs
open Go.RowKit (Below)
def bS (T:TypeId→TI) (gl:Nat→List V) (ops:Array Oper):List Oper→AFr→St→Option (AFr×St)
 | [],fr,st=>some (fr,st)
 | o ::r,fr,st=>match o.guard with
  | none=>match jn T gl fr st o.op with
   |some (v,st')=>bS T gl ops r (fr.put o.dst v) st'
   |none=>none
  | some (j,want)=>match qX ops fr j with
   | some b=>if b=some want then(match jn T gl fr st o.op with
     |some (v,st')=>bS T gl ops r (fr.put o.dst v) st'
     |none=>none)else bS T gl ops r (fr.put o.dst (.tuple [])) st
   |none=>none
section
variable {P:Program} {T:TypeId→TI} {gl:Nat→List V} {ops:Array Oper} {K:AFr→St→Prop}
theorem Kh {f:Operand} {args:Array Operand} {tys:Array TypeId} {fr:AFr} {st:St}:wj P gl fr st (.call ⟨.value f,args,tys⟩)=none:=by simp [wj]
theorem Xd {o:Oper} {fr:AFr} {st:St} {v:V} {st':St} {K:V→St→Prop} (h:wj P gl fr st o.op=some (v,st')) (k:K v st'):pO P gl o fr st K:=by
 unfold pO
 split
 ·rename_i f args tys he
  rw [he,Kh]at h; cases h
 ·rw [h]; exact .inl k
theorem Zg:∀(l:List Oper) (rest:List Oper) (fr:AFr) (st:St) (fr':AFr) (st':St),bS (ti P) gl ops l fr st=some (fr',st')→kl P gl ops rest fr' st' K→kl P gl ops (l++rest) fr st K
 | [],rest,fr,st,fr',st',h,k=>by simp only [bS]at h; injection h with h; injection h with h1 h2; subst h1 h2; exact k
 | o ::r,rest,fr,st,fr',st',h,k=>by
  simp only [bS,kr]at h
  simp only [List.cons_append,kl]
  split at h
  ·rename_i hg
   rw [hg]
   split at h
   ·rename_i v st1 he
    exact Xd (K:=fun v st'=>kl P gl ops (r++rest) (fr.put o.dst v) st' K) he (Zg r rest _ _ _ _ h k)
   ·cases h
  ·rename_i j want hg
   rw [hg]
   split at h
   ·rename_i b hb
    simp only [hb]
    split at h
    ·rename_i hw
     split at h
     ·rename_i v st1 he
      exact⟨fun _=>Xd (K:=fun v st'=>kl P gl ops (r++rest) (fr.put o.dst v) st' K) he (Zg r rest _ _ _ _ h k),fun hn=>absurd hw hn⟩
     ·cases h
    ·rename_i hw
     exact⟨fun hn=>absurd hn hw,fun _=>Zg r rest _ _ _ _ h k⟩
   ·cases h
theorem pH (hT:T=ti P) (l rest:List Oper) (fr:AFr) (st:St) (fr':AFr) (st':St) (h:bS T gl ops l fr st=some (fr',st')) (k:kl P gl ops rest fr' st' K):kl P gl ops (l++rest) fr st K:=by
 subst hT; exact Zg l rest fr st fr' st' h k
def seg (ops:Array Oper) (i k:Nat):List Oper:=(ops.toList.drop i).take (k-i)
def bI (T:TypeId→TI) (gl:Nat→List V) (ops:Array Oper) (i k:Nat) (fr:AFr) (st:St):AFr×St:=(bS T gl ops (seg ops i k) fr st).getD (⟨0,[]⟩,⟨[],[]⟩)
def xm (ops:Array Oper) (k:Nat):Option Tmp:=match ops.toList[k]? with|some o=>o.dst|none=>none
def Xl (ops:Array Oper) (o:Oper) (fr:AFr):Bool:=match o.guard with
 |none=>true
 |some (j,want)=>match qX ops fr j with|some b=>decide (b=some want)|none=>false
def UW (T:TypeId→TI) (gl:Nat→List V) (ops:Array Oper) (i k:Nat) (fr:AFr) (st:St):Option (V×St):=
 match bS T gl ops (seg ops i k) fr st with
 | some (fr1,st1)=>match ops.toList[k]? with
  |some o=>match Xl ops o fr1 with|true=>jn T gl fr1 st1 o.op|false=>none
  |none=>none
 |none=>none
theorem Ye {ops:Array Oper} {i k:Nat} {o:Oper} (hk:ops.toList[k]? =some o) (hik:i≤k):ops.toList.drop i=seg ops i k++o::ops.toList.drop (k+1):=by
 have hlt:=zJ hk
 have h1:ops.toList.drop i=(ops.toList.drop i).take (k-i)++(ops.toList.drop i).drop (k-i):=(List.take_append_drop _ _).symm
 rw [h1,List.drop_drop,show i+(k-i)=k by omega,List.drop_eq_getElem_cons hlt]
 rw [List.getElem?_eq_getElem hlt]at hk; injection hk with hk; rw [hk]
 rfl
theorem W5 {o:Oper} {rest:List Oper} {fr:AFr} {st:St} (h:Xl ops o fr=true) (k:pO P gl o fr st fun v st'=>kl P gl ops rest (fr.put o.dst v) st' K):kl P gl ops (o::rest) fr st K:=by
 simp only [kl]
 unfold Xl at h
 split at h
 ·rename_i hg; rw [hg]; exact k
 ·rename_i j want hg
  rw [hg]
  simp only
  split at h
  ·rename_i b hb
   rw [hb]
   exact⟨fun _=>k,fun hn=>absurd (of_decide_eq_true h) hn⟩
  ·cases h
theorem JM (hT:T=ti P) {i:Nat} {fr:AFr} {st:St} (k:Nat) {q:Option (V×St)} {v:V} {st':St} (hq:q=some (v,st')) (hik:Nat.ble i k=true) (he:UW T gl ops i k fr st=q)
  (h:kl P gl ops (ops.toList.drop (k+1)) ((bI T gl ops i k fr st).1.put (xm ops k) v) st' K):kl P gl ops (ops.toList.drop i) fr st K:=by
 subst hq
 unfold UW at he
 split at he
 ·rename_i fr1 st1 hr
  split at he
  ·rename_i o ho
   split at he
   ·rename_i hb
    rw [Ye ho (Nat.le_of_ble_eq_true hik)]
    have he':wj P gl fr1 st1 o.op=some (v,st'):=by rw [←kr,←hT]; exact he
    refine pH hT _ _ _ _ _ _ hr (W5 hb (Xd he' ?_))
    simp only [bI,hr,Option.getD_some,xm,ho]at h
    exact h
   ·cases he
  ·cases he
 ·cases he
def pw (q:Option V) (st:St):Option (V×St):=match q with|some v=>some (v,st)|none=>none
theorem cT (hT:T=ti P) {i:Nat} {fr:AFr} {st:St} (k:Nat) {q:Option V} {v:V} (hq:q=some v) (hik:Nat.ble i k=true) (he:UW T gl ops i k fr st=pw q (bI T gl ops i k fr st).2)
  (h:kl P gl ops (ops.toList.drop (k+1)) ((bI T gl ops i k fr st).1.put (xm ops k) v) (bI T gl ops i k fr st).2 K):kl P gl ops (ops.toList.drop i) fr st K:=
 JM hT k (q:=some (v,(bI T gl ops i k fr st).2)) rfl hik (by rw [he,hq]; rfl) h
def J1 (T:TypeId→TI) (gl:Nat→List V) (ops:Array Oper) (i k:Nat) (fr:AFr) (st:St):Option (Nat×V):=
 match bS T gl ops (seg ops i k) fr st with
 | some (fr1,st1)=>match ops.toList[k]? with
  | some o=>match o.guard with
   | some (j,_)=>match xm ops j with
    |some d=>some (d,xH fr1.l d)
    |none=>none
   |none=>none
  |none=>none
 |none=>none
theorem Jd (l:List (Nat×V)) (d:Nat) (h:xH l d≠ .junk):U9 l d (xH l d)=l:=by
 induction l with
 |nil=>simp [xH]at h
 | cons x r ih=>
  obtain⟨k,v⟩:=x
  simp only [xH,U9]at *
  by_cases e:k=d
  ·simp [e]
  ·simp only [e,if_false]at *
   rw [ih h]
theorem cu (hT:T=ti P) {i:Nat} {fr:AFr} {st:St} (k d:Nat) (b:Bool) (hik:Nat.ble i k=true) (he:J1 T gl ops i k fr st=some (d, .bool b))
  (ht:b=true→kl P gl ops (ops.toList.drop k) ((bI T gl ops i k fr st).1.put (some d) (.bool true)) (bI T gl ops i k fr st).2 K)
  (hf:b=false→kl P gl ops (ops.toList.drop k) ((bI T gl ops i k fr st).1.put (some d) (.bool false)) (bI T gl ops i k fr st).2 K):kl P gl ops (ops.toList.drop i) fr st K:=by
 unfold J1 at he
 split at he
 ·rename_i fr1 st1 hr
  split at he
  ·rename_i o ho
   split at he
   ·split at he
    ·rename_i dd hdd
     injection he with he; injection he with he1 he2
     subst he1
     rw [Ye ho (Nat.le_of_ble_eq_true hik)]
     have hlt:=zJ ho
     have e1:ops.toList.drop k=o::ops.toList.drop (k+1):=by
      rw [List.drop_eq_getElem_cons hlt]
      rw [List.getElem?_eq_getElem hlt]at ho; injection ho with ho; rw [ho]
     rw [e1]at ht hf
     simp only [bI,hr,Option.getD_some]at ht hf
     refine pH hT _ _ _ _ _ _ hr ?_
     have same:∀b',b=b'→fr1.put (some dd) (.bool b')=fr1:=by
      rintro b' rfl
      simp only [AFr.put]
      split
      ·rw [←he2,Jd _ _ (by rw [he2]; simp)]
      ·rfl
     cases b with
     |true=>have:=ht rfl; rw [same true rfl]at this; exact this
     |false=>have:=hf rfl; rw [same false rfl]at this; exact this
    ·cases he
   ·cases he
  ·cases he
 ·cases he
def VP (T:TypeId→TI) (gl:Nat→List V) (ops:Array Oper) (i k:Nat) (fr:AFr) (st:St):Option (FuncId×List V):=
 match bS T gl ops (seg ops i k) fr st with
 | some (fr1,st1)=>match ops.toList[k]? with
  | some o=>match Xl ops o fr1 with
   | true=>match o.op with
    | .call ⟨.value f,args,_⟩=>Y3 (fr1.eval f) (args.toList.map fr1.eval)
    |_=>none
   |false=>none
  |none=>none
 |none=>none
theorem Pn (hT:T=ti P) {i:Nat} {fr:AFr} {st:St} (k:Nat) {f:FuncId} {args:List V} {Q:V→St→Prop} (hik:Nat.ble i k=true) (he:VP T gl ops i k fr st=some (f,args))
  (hc:wN P gl f args (bI T gl ops i k fr st).2 Q)
  (h:∀r st',Q r st'→kl P gl ops (ops.toList.drop (k+1)) ((bI T gl ops i k fr st).1.put (xm ops k) r) st' K):kl P gl ops (ops.toList.drop i) fr st K:=by
 unfold VP at he
 split at he
 ·rename_i fr1 st1 hr
  split at he
  ·rename_i o ho
   split at he
   ·rename_i hb
    split at he
    ·rename_i fo cargs tys hop
     rw [Ye ho (Nat.le_of_ble_eq_true hik)]
     refine pH hT _ _ _ _ _ _ hr (W5 hb ?_)
     simp only [bI,hr,Option.getD_some,xm,ho]at h hc
     unfold pO
     rw [hop]
     simp only
     rw [he]
     exact hc.mono h
    ·cases he
   ·cases he
  ·cases he
 ·cases he
def Out (r:V) (s:St):V→St→Prop:=fun r' s'=>r'=r∧s'=s
end
section
variable {st:St}
theorem Emb.pure (n m:Nat) (h1:n=st.vars.length) (h2:m=st.fams.length):Emb ⟨[],n,[],m⟩ ⟨[],[]⟩ st:=
 ⟨rfl,h1,rfl,h2, .nil, .nil,fun k cs h=>by simp at h,fun k p h=>by simp at h⟩
def P9 (R:Ren) (st1 st:St):List Nat→List (List V)→Prop
 |i::σ,cs::r=>V.scs st1 cs∧(∃d,st.vars[i]? =some d∧dk (V.rens R cs) d)∧P9 R st1 st σ r
 | [],[]=>True
 |_,_=>False
theorem P9.get {R:Ren} {st1 st:St}:∀ {σ:List Nat} {l:List (List V)},P9 R st1 st σ l→∀(k:Nat) (cs:List V),l[k]? =some cs→V.scs st1 cs∧∃i d,σ[k]? =some i∧st.vars[i]? =some d∧dk (V.rens R cs) d
 | i::σ,c::r,h,0,cs,hk=>by
  simp at hk; subst hk
  obtain⟨h1,⟨d,h2,h3⟩,_⟩:=h
  exact⟨h1,i,d,rfl,h2,h3⟩
 |i::σ,c::r,h,k+1,cs,hk=>by simpa using P9.get h.2.2 k cs (by simpa using hk)
 | [],[],_,k,cs,hk=>by simp at hk
 | [],_::_,h,_,_,_=>h.elim
 |_::_,[],h,_,_,_=>h.elim
def ed (R:Ren) (st1 st:St):Bool:=
 (R.σ.length==st1.vars.length)&&(R.n==st.vars.length)&&(R.τ.length==st1.fams.length)&&(R.m==st.fams.length)&&decide R.σ.Nodup&&decide R.τ.Nodup
theorem Emb.vs {R:Ren} {st1 st:St} (h1:ed R st1 st=true) (h2:P9 R st1 st R.σ st1.vars) (h3:R.τ.map (fun i=>st.fams[i]?)=st1.fams.map some):Emb R st1 st:=by
 simp only [ed,Bool.and_eq_true,beq_iff_eq,decide_eq_true_eq]at h1
 obtain⟨⟨⟨⟨⟨a1,a2⟩,a3⟩,a4⟩,a5⟩,a6⟩:=h1
 refine⟨a1,a2,a3,a4,a5,a6,fun k cs h=>h2.get k cs h, ?_⟩
 intro k p hp
 have hk:k<R.τ.length:=by rw [a3]; exact zJ hp
 have:=congrArg (fun l=>l[k]?) h3
 simp only [List.getElem?_map,hp,List.getElem?_eq_getElem hk,Option.map_some,Option.some.injEq]at this
 exact⟨_,List.getElem?_eq_getElem hk,this⟩
end
end Go.Abs
end
