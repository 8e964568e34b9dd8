/- Layer: an abstract reading of values and worlds, and that the model's operations, regions, loops and calls keep to it. No condition beyond each statement's own. -/
import Derived.Test.YtbggpcnbbhjiaaaGreatDoorA23
set_option linter.unusedVariables false
set_option linter.unusedSimpArgs false
set_option linter.unnecessarySimpa false
section
namespace Go.Abs
open Go.RowKit (Below)
def kH (T:TypeId→TI) (gl:Nat→List V) (ops:Array Oper):List Oper→AFr→St→Option (AFr×St)
 | [],fr,st=>some (fr,st)
 | o ::r,fr,st=>match o.guard with
  | none=>match uW T gl fr st o.op with
   |some (v,st')=>kH T gl ops r (fr.put o.dst v) st'
   |none=>none
  | some (j,want)=>match jT ops fr j with
   | some b=>if b=some want then(match uW T gl fr st o.op with
     |some (v,st')=>kH T gl ops r (fr.put o.dst v) st'
     |none=>none)else kH T gl ops r (fr.put o.dst (.tuple [])) st
   |none=>none
section
variable {P:Program} {T:TypeId→TI} {gl:Nat→List V} {ops:Array Oper} {K:AFr→St→Prop}
theorem QL {f:Operand} {args:Array Operand} {tys:Array TypeId} {fr:AFr} {st:St}:xG P gl fr st (.call ⟨.value f,args,tys⟩)=none:=by simp [xG]
theorem Yi {o:Oper} {fr:AFr} {st:St} {v:V} {st':St} {K:V→St→Prop} (h:xG P gl fr st o.op=some (v,st')) (k:K v st'):pw P gl o fr st K:=by
 unfold pw
 split
 ·rename_i f args tys he
  rw [he,QL]at h; cases h
 ·rw [h]; exact .inl k
theorem ph:∀(l:List Oper) (rest:List Oper) (fr:AFr) (st:St) (fr':AFr) (st':St),kH (ti P) gl ops l fr st=some (fr',st')→j2 P gl ops rest fr' st' K→j2 P gl ops (l++rest) fr st K
 | [],rest,fr,st,fr',st',h,k=>by simp only [kH]at h; injection h with h; injection h with h1 h2; subst h1 h2; exact k
 | o ::r,rest,fr,st,fr',st',h,k=>by
  simp only [kH,qF]at h
  simp only [List.cons_append,j2]
  split at h
  ·rename_i hg
   rw [hg]
   split at h
   ·rename_i v st1 he
    exact Yi (K:=fun v st'=>j2 P gl ops (r++rest) (fr.put o.dst v) st' K) he (ph r rest _ _ _ _ h k)
   ·cases h
  ·rename_i j want hg
   rw [hg]
   split at h
   ·rename_i b hb
    simp only [hb]
    split at h
    ·rename_i hw
     split at h
     ·rename_i v st1 he
      exact⟨fun _=>Yi (K:=fun v st'=>j2 P gl ops (r++rest) (fr.put o.dst v) st' K) he (ph r rest _ _ _ _ h k),fun hn=>absurd hw hn⟩
     ·cases h
    ·rename_i hw
     exact⟨fun hn=>absurd hn hw,fun _=>ph r rest _ _ _ _ h k⟩
   ·cases h
theorem Zg (hT:T=ti P) (l rest:List Oper) (fr:AFr) (st:St) (fr':AFr) (st':St) (h:kH T gl ops l fr st=some (fr',st')) (k:j2 P gl ops rest fr' st' K):j2 P gl ops (l++rest) fr st K:=by
 subst hT; exact ph l rest fr st fr' st' h k
def seg (ops:Array Oper) (i k:Nat):List Oper:=(ops.toList.drop i).take (k-i)
def kn (T:TypeId→TI) (gl:Nat→List V) (ops:Array Oper) (i k:Nat) (fr:AFr) (st:St):AFr×St:=(kH T gl ops (seg ops i k) fr st).getD (⟨0,[]⟩,⟨[],[]⟩)
def xm (ops:Array Oper) (k:Nat):Option Tmp:=match ops.toList[k]? with|some o=>o.dst|none=>none
def WZ (ops:Array Oper) (o:Oper) (fr:AFr):Bool:=match o.guard with
 |none=>true
 |some (j,want)=>match jT ops fr j with|some b=>decide (b=some want)|none=>false
def VU (T:TypeId→TI) (gl:Nat→List V) (ops:Array Oper) (i k:Nat) (fr:AFr) (st:St):Option (V×St):=
 match kH T gl ops (seg ops i k) fr st with
 | some (fr1,st1)=>match ops.toList[k]? with
  |some o=>match WZ ops o fr1 with|true=>uW T gl fr1 st1 o.op|false=>none
  |none=>none
 |none=>none
theorem YM {ops:Array Oper} {i k:Nat} {o:Oper} (hk:ops.toList[k]? =some o) (hik:i≤k):ops.toList.drop i=seg ops i k++o::ops.toList.drop (k+1):=by
 have hlt:=zH hk
 have h1:ops.toList.drop i=(ops.toList.drop i).take (k-i)++(ops.toList.drop i).drop (k-i):=(List.take_append_drop _ _).symm
 rw [h1,List.drop_drop,show i+(k-i)=k by omega,List.drop_eq_getElem_cons hlt]
 rw [List.getElem?_eq_getElem hlt]at hk; injection hk with hk; rw [hk]
 rfl
theorem U9 {o:Oper} {rest:List Oper} {fr:AFr} {st:St} (h:WZ ops o fr=true) (k:pw P gl o fr st fun v st'=>j2 P gl ops rest (fr.put o.dst v) st' K):j2 P gl ops (o::rest) fr st K:=by
 simp only [j2]
 unfold WZ at h
 split at h
 ·rename_i hg; rw [hg]; exact k
 ·rename_i j want hg
  rw [hg]
  simp only
  split at h
  ·rename_i b hb
   rw [hb]
   exact⟨fun _=>k,fun hn=>absurd (of_decide_eq_true h) hn⟩
  ·cases h
theorem JZ (hT:T=ti P) {i:Nat} {fr:AFr} {st:St} (k:Nat) {q:Option (V×St)} {v:V} {st':St} (hq:q=some (v,st')) (hik:Nat.ble i k=true) (he:VU T gl ops i k fr st=q)
  (h:j2 P gl ops (ops.toList.drop (k+1)) ((kn T gl ops i k fr st).1.put (xm ops k) v) st' K):j2 P gl ops (ops.toList.drop i) fr st K:=by
 subst hq
 unfold VU at he
 split at he
 ·rename_i fr1 st1 hr
  split at he
  ·rename_i o ho
   split at he
   ·rename_i hb
    rw [YM ho (Nat.le_of_ble_eq_true hik)]
    have he':xG P gl fr1 st1 o.op=some (v,st'):=by rw [←qF,←hT]; exact he
    refine Zg hT _ _ _ _ _ _ hr (U9 hb (Yi he' ?_))
    simp only [kn,hr,Option.getD_some,xm,ho]at h
    exact h
   ·cases he
  ·cases he
 ·cases he
def gS (q:Option V) (st:St):Option (V×St):=match q with|some v=>some (v,st)|none=>none
theorem P3 (hT:T=ti P) {i:Nat} {fr:AFr} {st:St} (k:Nat) {q:Option V} {v:V} (hq:q=some v) (hik:Nat.ble i k=true) (he:VU T gl ops i k fr st=gS q (kn T gl ops i k fr st).2)
  (h:j2 P gl ops (ops.toList.drop (k+1)) ((kn T gl ops i k fr st).1.put (xm ops k) v) (kn T gl ops i k fr st).2 K):j2 P gl ops (ops.toList.drop i) fr st K:=
 JZ hT k (q:=some (v,(kn T gl ops i k fr st).2)) rfl hik (by rw [he,hq]; rfl) h
def Jt (T:TypeId→TI) (gl:Nat→List V) (ops:Array Oper) (i k:Nat) (fr:AFr) (st:St):Option (Nat×V):=
 match kH T gl ops (seg ops i k) fr st with
 | some (fr1,st1)=>match ops.toList[k]? with
  | some o=>match o.guard with
   | some (j,_)=>match xm ops j with
    |some d=>some (d,xn fr1.l d)
    |none=>none
   |none=>none
  |none=>none
 |none=>none
theorem UK (l:List (Nat×V)) (d:Nat) (h:xn l d≠ .junk):UF l d (xn l d)=l:=by
 induction l with
 |nil=>simp [xn]at h
 | cons x r ih=>
  obtain⟨k,v⟩:=x
  simp only [xn,UF]at *
  by_cases e:k=d
  ·simp [e]
  ·simp only [e,if_false]at *
   rw [ih h]
theorem Dv (hT:T=ti P) {i:Nat} {fr:AFr} {st:St} (k d:Nat) (b:Bool) (hik:Nat.ble i k=true) (he:Jt T gl ops i k fr st=some (d, .bool b))
  (ht:b=true→j2 P gl ops (ops.toList.drop k) ((kn T gl ops i k fr st).1.put (some d) (.bool true)) (kn T gl ops i k fr st).2 K)
  (hf:b=false→j2 P gl ops (ops.toList.drop k) ((kn T gl ops i k fr st).1.put (some d) (.bool false)) (kn T gl ops i k fr st).2 K):j2 P gl ops (ops.toList.drop i) fr st K:=by
 unfold Jt at he
 split at he
 ·rename_i fr1 st1 hr
  split at he
  ·rename_i o ho
   split at he
   ·split at he
    ·rename_i dd hdd
     injection he with he; injection he with he1 he2
     subst he1
     rw [YM ho (Nat.le_of_ble_eq_true hik)]
     have hlt:=zH ho
     have e1:ops.toList.drop k=o::ops.toList.drop (k+1):=by
      rw [List.drop_eq_getElem_cons hlt]
      rw [List.getElem?_eq_getElem hlt]at ho; injection ho with ho; rw [ho]
     rw [e1]at ht hf
     simp only [kn,hr,Option.getD_some]at ht hf
     refine Zg hT _ _ _ _ _ _ hr ?_
     have same:∀b',b=b'→fr1.put (some dd) (.bool b')=fr1:=by
      rintro b' rfl
      simp only [AFr.put]
      split
      ·rw [←he2,UK _ _ (by rw [he2]; simp)]
      ·rfl
     cases b with
     |true=>have:=ht rfl; rw [same true rfl]at this; exact this
     |false=>have:=hf rfl; rw [same false rfl]at this; exact this
    ·cases he
   ·cases he
  ·cases he
 ·cases he
def W8 (T:TypeId→TI) (gl:Nat→List V) (ops:Array Oper) (i k:Nat) (fr:AFr) (st:St):Option (FuncId×List V):=
 match kH T gl ops (seg ops i k) fr st with
 | some (fr1,st1)=>match ops.toList[k]? with
  | some o=>match WZ ops o fr1 with
   | true=>match o.op with
    | .call ⟨.value f,args,_⟩=>Yh (fr1.eval f) (args.toList.map fr1.eval)
    |_=>none
   |false=>none
  |none=>none
 |none=>none
theorem Dl (hT:T=ti P) {i:Nat} {fr:AFr} {st:St} (k:Nat) {f:FuncId} {args:List V} {Q:V→St→Prop} (hik:Nat.ble i k=true) (he:W8 T gl ops i k fr st=some (f,args))
  (hc:xR P gl f args (kn T gl ops i k fr st).2 Q)
  (h:∀r st',Q r st'→j2 P gl ops (ops.toList.drop (k+1)) ((kn T gl ops i k fr st).1.put (xm ops k) r) st' K):j2 P gl ops (ops.toList.drop i) fr st K:=by
 unfold W8 at he
 split at he
 ·rename_i fr1 st1 hr
  split at he
  ·rename_i o ho
   split at he
   ·rename_i hb
    split at he
    ·rename_i fo cargs tys hop
     rw [YM ho (Nat.le_of_ble_eq_true hik)]
     refine Zg hT _ _ _ _ _ _ hr (U9 hb ?_)
     simp only [kn,hr,Option.getD_some,xm,ho]at h hc
     unfold pw
     rw [hop]
     simp only
     rw [he]
     exact hc.mono h
    ·cases he
   ·cases he
  ·cases he
 ·cases he
def Out (r:V) (s:St):V→St→Prop:=fun r' s'=>r'=r∧s'=s
end
section
variable {st:St}
theorem Emb.pure (n m:Nat) (h1:n=st.vars.length) (h2:m=st.fams.length):Emb ⟨[],n,[],m⟩ ⟨[],[]⟩ st:=
 ⟨rfl,h1,rfl,h2, .nil, .nil,fun k cs h=>by simp at h,fun k p h=>by simp at h⟩
def D5 (R:Ren) (st1 st:St):List Nat→List (List V)→Prop
 |i::σ,cs::r=>V.scs st1 cs∧(∃d,st.vars[i]? =some d∧bS (V.rens R cs) d)∧D5 R st1 st σ r
 | [],[]=>True
 |_,_=>False
theorem D5.get {R:Ren} {st1 st:St}:∀ {σ:List Nat} {l:List (List V)},D5 R st1 st σ l→∀(k:Nat) (cs:List V),l[k]? =some cs→V.scs st1 cs∧∃i d,σ[k]? =some i∧st.vars[i]? =some d∧bS (V.rens R cs) d
 | i::σ,c::r,h,0,cs,hk=>by
  simp at hk; subst hk
  obtain⟨h1,⟨d,h2,h3⟩,_⟩:=h
  exact⟨h1,i,d,rfl,h2,h3⟩
 |i::σ,c::r,h,k+1,cs,hk=>by simpa using D5.get h.2.2 k cs (by simpa using hk)
 | [],[],_,k,cs,hk=>by simp at hk
 | [],_::_,h,_,_,_=>h.elim
 |_::_,[],h,_,_,_=>h.elim
def Pt (R:Ren) (st1 st:St):Bool:=
 (R.σ.length==st1.vars.length)&&(R.n==st.vars.length)&&(R.τ.length==st1.fams.length)&&(R.m==st.fams.length)&&decide R.σ.Nodup&&decide R.τ.Nodup
theorem Emb.vs {R:Ren} {st1 st:St} (h1:Pt R st1 st=true) (h2:D5 R st1 st R.σ st1.vars) (h3:R.τ.map (fun i=>st.fams[i]?)=st1.fams.map some):Emb R st1 st:=by
 simp only [Pt,Bool.and_eq_true,beq_iff_eq,decide_eq_true_eq]at h1
 obtain⟨⟨⟨⟨⟨a1,a2⟩,a3⟩,a4⟩,a5⟩,a6⟩:=h1
 refine⟨a1,a2,a3,a4,a5,a6,fun k cs h=>h2.get k cs h, ?_⟩
 intro k p hp
 have hk:k<R.τ.length:=by rw [a3]; exact zH hp
 have:=congrArg (fun l=>l[k]?) h3
 simp only [List.getElem?_map,hp,List.getElem?_eq_getElem hk,Option.map_some,Option.some.injEq]at this
 exact⟨_,List.getElem?_eq_getElem hk,this⟩
end
end Go.Abs
end
