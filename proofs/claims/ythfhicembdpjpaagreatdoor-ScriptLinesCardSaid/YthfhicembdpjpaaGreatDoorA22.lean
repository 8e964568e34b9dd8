/- Abstract values: a part. No condition beyond each statement's own. -/
import Derived.Test.YthfhicembdpjpaaGreatDoorA21
set_option linter.all false
section
namespace Go.Abs
open Go.RowKit (Below)
def bW (T:TypeId→TI) (gl:Nat→List V) (ops:Array Oper):List Oper→AFr→St→Option (AFr×St)
 | [],fr,st=>some (fr,st)
 | o ::r,fr,st=>match o.guard with
  | none=>match jp T gl fr st o.op with
   |some (v,st')=>bW T gl ops r (fr.put o.dst v) st'
   |none=>none
  | some (j,want)=>match ky ops fr j with
   | some b=>if b=some want then(match jp T gl fr st o.op with
     |some (v,st')=>bW T gl ops r (fr.put o.dst v) st'
     |none=>none)else bW T gl ops r (fr.put o.dst (.tuple [])) st
   |none=>none
section
variable {P:Program} {T:TypeId→TI} {gl:Nat→List V} {ops:Array Oper} {K:AFr→St→Prop}
theorem J8 {f:Operand} {args:Array Operand} {tys:Array TypeId} {fr:AFr} {st:St}:xY P gl fr st (.call ⟨.value f,args,tys⟩)=none:=by simp [xY]
theorem XX {o:Oper} {fr:AFr} {st:St} {v:V} {st':St} {K:V→St→Prop} (h:xY P gl fr st o.op=some (v,st')) (k:K v st'):pU P gl o fr st K:=by
 unfold pU
 split
 ·rename_i f args tys he
  rw [he,J8]at h; cases h
 ·rw [h]; exact .inl k
theorem Zr:∀(l:List Oper) (rest:List Oper) (fr:AFr) (st:St) (fr':AFr) (st':St),bW (ti P) gl ops l fr st=some (fr',st')→kJ P gl ops rest fr' st' K→kJ P gl ops (l++rest) fr st K
 | [],rest,fr,st,fr',st',h,k=>by simp only [bW]at h; injection h with h; injection h with h1 h2; subst h1 h2; exact k
 | o ::r,rest,fr,st,fr',st',h,k=>by
  simp only [bW,kW]at h
  simp only [List.cons_append,kJ]
  split at h
  ·rename_i hg
   rw [hg]
   split at h
   ·rename_i v st1 he
    exact XX (K:=fun v st'=>kJ P gl ops (r++rest) (fr.put o.dst v) st' K) he (Zr r rest _ _ _ _ h k)
   ·cases h
  ·rename_i j want hg
   rw [hg]
   split at h
   ·rename_i b hb
    simp only [hb]
    split at h
    ·rename_i hw
     split at h
     ·rename_i v st1 he
      exact⟨fun _=>XX (K:=fun v st'=>kJ P gl ops (r++rest) (fr.put o.dst v) st' K) he (Zr r rest _ _ _ _ h k),fun hn=>absurd hw hn⟩
     ·cases h
    ·rename_i hw
     exact⟨fun hn=>absurd hn hw,fun _=>Zr r rest _ _ _ _ h k⟩
   ·cases h
theorem gu (hT:T=ti P) (l rest:List Oper) (fr:AFr) (st:St) (fr':AFr) (st':St) (h:bW T gl ops l fr st=some (fr',st')) (k:kJ P gl ops rest fr' st' K):kJ P gl ops (l++rest) fr st K:=by
 subst hT; exact Zr l rest fr st fr' st' h k
def seg (ops:Array Oper) (i k:Nat):List Oper:=(ops.toList.drop i).take (k-i)
def bD (T:TypeId→TI) (gl:Nat→List V) (ops:Array Oper) (i k:Nat) (fr:AFr) (st:St):AFr×St:=(bW T gl ops (seg ops i k) fr st).getD (⟨0,[]⟩,⟨[],[]⟩)
def we (ops:Array Oper) (k:Nat):Option Tmp:=match ops.toList[k]? with|some o=>o.dst|none=>none
def YC (ops:Array Oper) (o:Oper) (fr:AFr):Bool:=match o.guard with
 |none=>true
 |some (j,want)=>match ky ops fr j with|some b=>decide (b=some want)|none=>false
def VC (T:TypeId→TI) (gl:Nat→List V) (ops:Array Oper) (i k:Nat) (fr:AFr) (st:St):Option (V×St):=
 match bW T gl ops (seg ops i k) fr st with
 | some (fr1,st1)=>match ops.toList[k]? with
  |some o=>match YC ops o fr1 with|true=>jp T gl fr1 st1 o.op|false=>none
  |none=>none
 |none=>none
theorem pW {ops:Array Oper} {i k:Nat} {o:Oper} (hk:ops.toList[k]? =some o) (hik:i≤k):ops.toList.drop i=seg ops i k++o::ops.toList.drop (k+1):=by
 have hlt:=yj hk
 have h1:ops.toList.drop i=(ops.toList.drop i).take (k-i)++(ops.toList.drop i).drop (k-i):=(List.take_append_drop _ _).symm
 rw [h1,List.drop_drop,show i+(k-i)=k by omega,List.drop_eq_getElem_cons hlt]
 rw [List.getElem?_eq_getElem hlt]at hk; injection hk with hk; rw [hk]
 rfl
theorem Xe {o:Oper} {rest:List Oper} {fr:AFr} {st:St} (h:YC ops o fr=true) (k:pU P gl o fr st fun v st'=>kJ P gl ops rest (fr.put o.dst v) st' K):kJ P gl ops (o::rest) fr st K:=by
 simp only [kJ]
 unfold YC at h
 split at h
 ·rename_i hg; rw [hg]; exact k
 ·rename_i j want hg
  rw [hg]
  simp only
  split at h
  ·rename_i b hb
   rw [hb]
   exact⟨fun _=>k,fun hn=>absurd (of_decide_eq_true h) hn⟩
  ·cases h
theorem V6 (hT:T=ti P) {i:Nat} {fr:AFr} {st:St} (k:Nat) {q:Option (V×St)} {v:V} {st':St} (hq:q=some (v,st')) (hik:Nat.ble i k=true) (he:VC T gl ops i k fr st=q)
  (h:kJ P gl ops (ops.toList.drop (k+1)) ((bD T gl ops i k fr st).1.put (we ops k) v) st' K):kJ P gl ops (ops.toList.drop i) fr st K:=by
 subst hq
 unfold VC at he
 split at he
 ·rename_i fr1 st1 hr
  split at he
  ·rename_i o ho
   split at he
   ·rename_i hb
    rw [pW ho (iD hik)]
    have he':xY P gl fr1 st1 o.op=some (v,st'):=by rw [←kW,←hT]; exact he
    refine gu hT _ _ _ _ _ _ hr (Xe hb (XX he' ?_))
    simp only [bD,hr,Option.getD_some,we,ho]at h
    exact h
   ·cases he
  ·cases he
 ·cases he
def pg (q:Option V) (st:St):Option (V×St):=match q with|some v=>some (v,st)|none=>none
theorem Dl (hT:T=ti P) {i:Nat} {fr:AFr} {st:St} (k:Nat) {q:Option V} {v:V} (hq:q=some v) (hik:Nat.ble i k=true) (he:VC T gl ops i k fr st=pg q (bD T gl ops i k fr st).2)
  (h:kJ P gl ops (ops.toList.drop (k+1)) ((bD T gl ops i k fr st).1.put (we ops k) v) (bD T gl ops i k fr st).2 K):kJ P gl ops (ops.toList.drop i) fr st K:=
 V6 hT k (q:=some (v,(bD T gl ops i k fr st).2)) rfl hik (by rw [he,hq]; rfl) h
def UZ (T:TypeId→TI) (gl:Nat→List V) (ops:Array Oper) (i k:Nat) (fr:AFr) (st:St):Option (Nat×V):=
 match bW T gl ops (seg ops i k) fr st with
 | some (fr1,st1)=>match ops.toList[k]? with
  | some o=>match o.guard with
   | some (j,_)=>match we ops j with
    |some d=>some (d,wh fr1.l d)
    |none=>none
   |none=>none
  |none=>none
 |none=>none
theorem UJ (l:List (Nat×V)) (d:Nat) (h:wh l d≠ .junk):Uy l d (wh l d)=l:=by
 induction l with
 |nil=>simp [wh]at h
 | cons x r ih=>
  obtain⟨k,v⟩:=x
  simp only [wh,Uy]at *
  by_cases e:k=d
  ·simp [e]
  ·simp only [e,if_false]at *
   rw [ih h]
theorem Gl (hT:T=ti P) {i:Nat} {fr:AFr} {st:St} (k d:Nat) (b:Bool) (hik:Nat.ble i k=true) (he:UZ T gl ops i k fr st=some (d, .bool b))
  (ht:b=true→kJ P gl ops (ops.toList.drop k) ((bD T gl ops i k fr st).1.put (some d) (.bool true)) (bD T gl ops i k fr st).2 K)
  (hf:b=false→kJ P gl ops (ops.toList.drop k) ((bD T gl ops i k fr st).1.put (some d) (.bool false)) (bD T gl ops i k fr st).2 K):kJ P gl ops (ops.toList.drop i) fr st K:=by
 unfold UZ at he
 split at he
 ·rename_i fr1 st1 hr
  split at he
  ·rename_i o ho
   split at he
   ·split at he
    ·rename_i dd hdd
     injection he with he; injection he with he1 he2
     subst he1
     rw [pW ho (iD hik)]
     have hlt:=yj ho
     have e1:ops.toList.drop k=o::ops.toList.drop (k+1):=by
      rw [List.drop_eq_getElem_cons hlt]
      rw [List.getElem?_eq_getElem hlt]at ho; injection ho with ho; rw [ho]
     rw [e1]at ht hf
     simp only [bD,hr,Option.getD_some]at ht hf
     refine gu hT _ _ _ _ _ _ hr ?_
     have same:∀b',b=b'→fr1.put (some dd) (.bool b')=fr1:=by
      rintro b' rfl
      simp only [AFr.put]
      split
      ·rw [←he2,UJ _ _ (by rw [he2]; simp)]
      ·rfl
     cases b with
     |true=>have:=ht rfl; rw [same true rfl]at this; exact this
     |false=>have:=hf rfl; rw [same false rfl]at this; exact this
    ·cases he
   ·cases he
  ·cases he
 ·cases he
def Va (T:TypeId→TI) (gl:Nat→List V) (ops:Array Oper) (i k:Nat) (fr:AFr) (st:St):Option (FuncId×List V):=
 match bW T gl ops (seg ops i k) fr st with
 | some (fr1,st1)=>match ops.toList[k]? with
  | some o=>match YC ops o fr1 with
   | true=>match o.op with
    | .call ⟨.value f,args,_⟩=>Y9 (fr1.eval f) (args.toList.map fr1.eval)
    |_=>none
   |false=>none
  |none=>none
 |none=>none
theorem Ge (hT:T=ti P) {i:Nat} {fr:AFr} {st:St} (k:Nat) {f:FuncId} {args:List V} {Q:V→St→Prop} (hik:Nat.ble i k=true) (he:Va T gl ops i k fr st=some (f,args))
  (hc:wn P gl f args (bD T gl ops i k fr st).2 Q)
  (h:∀r st',Q r st'→kJ P gl ops (ops.toList.drop (k+1)) ((bD T gl ops i k fr st).1.put (we ops k) r) st' K):kJ P gl ops (ops.toList.drop i) fr st K:=by
 unfold Va at he
 split at he
 ·rename_i fr1 st1 hr
  split at he
  ·rename_i o ho
   split at he
   ·rename_i hb
    split at he
    ·rename_i fo cargs tys hop
     rw [pW ho (iD hik)]
     refine gu hT _ _ _ _ _ _ hr (Xe hb ?_)
     simp only [bD,hr,Option.getD_some,we,ho]at h hc
     unfold pU
     rw [hop]
     simp only
     rw [he]
     exact hc.mono h
    ·cases he
   ·cases he
  ·cases he
 ·cases he
def Out (r:V) (s:St):V→St→Prop:=fun r' s'=>r'=r∧s'=s
end
section
variable {st:St}
theorem Emb.pure (n m:Nat) (h1:n=st.vars.length) (h2:m=st.fams.length):Emb ⟨[],n,[],m⟩ ⟨[],[]⟩ st:=
 ⟨rfl,h1,rfl,h2, .nil, .nil,fun k cs h=>by simp at h,fun k p h=>by simp at h⟩
def Gi (R:Ren) (st1 st:St):List Nat→List (List V)→Prop
 |i::σ,cs::r=>V.scs st1 cs∧(∃d,st.vars[i]? =some d∧dU (V.rens R cs) d)∧Gi R st1 st σ r
 | [],[]=>True
 |_,_=>False
theorem Gi.get {R:Ren} {st1 st:St}:∀ {σ:List Nat} {l:List (List V)},Gi R st1 st σ l→∀(k:Nat) (cs:List V),l[k]? =some cs→V.scs st1 cs∧∃i d,σ[k]? =some i∧st.vars[i]? =some d∧dU (V.rens R cs) d
 | i::σ,c::r,h,0,cs,hk=>by
  simp at hk; subst hk
  obtain⟨h1,⟨d,h2,h3⟩,_⟩:=h
  exact⟨h1,i,d,rfl,h2,h3⟩
 |i::σ,c::r,h,k+1,cs,hk=>by simpa using Gi.get h.2.2 k cs (O7 hk)
 | [],[],_,k,cs,hk=>by simp at hk
 | [],_::_,h,_,_,_=>h.elim
 |_::_,[],h,_,_,_=>h.elim
def DF (R:Ren) (st1 st:St):Bool:=
 (R.σ.length==st1.vars.length)&&(R.n==st.vars.length)&&(R.τ.length==st1.fams.length)&&(R.m==st.fams.length)&&decide R.σ.Nodup&&decide R.τ.Nodup
theorem Emb.vs {R:Ren} {st1 st:St} (h1:DF R st1 st=true) (h2:Gi R st1 st R.σ st1.vars) (h3:R.τ.map (fun i=>st.fams[i]?)=st1.fams.map some):Emb R st1 st:=by
 simp only [DF,iE,beq_iff_eq,decide_eq_true_eq]at h1
 obtain⟨⟨⟨⟨⟨a1,a2⟩,a3⟩,a4⟩,a5⟩,a6⟩:=h1
 refine⟨a1,a2,a3,a4,a5,a6,fun k cs h=>h2.get k cs h, ?_⟩
 intro k p hp
 have hk:k<R.τ.length:=by rw [a3]; exact yj hp
 have:=congrArg (fun l=>l[k]?) h3
 simp only [List.getElem?_map,hp,List.getElem?_eq_getElem hk,Option.map_some,Option.some.injEq]at this
 exact⟨_,List.getElem?_eq_getElem hk,this⟩
end
end Go.Abs
end
