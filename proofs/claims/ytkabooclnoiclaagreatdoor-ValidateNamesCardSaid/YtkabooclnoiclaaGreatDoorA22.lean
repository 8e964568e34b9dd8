/- Layer: an abstract reading of values and worlds, and that the model's operations, regions, loops and calls keep to it. No condition beyond each statement's own. -/
import Derived.Test.YtkabooclnoiclaaGreatDoorA21
set_option linter.unusedVariables false
set_option linter.unusedSimpArgs false
set_option linter.unnecessarySimpa false
section
namespace Go.Abs
open Go.RowKit (Below)
def wQ (T:TypeId→TI) (gl:Nat→List V) (ops:Array Oper):List Oper→AFr→St→Option (AFr×St)
 | [],fr,st=>some (fr,st)
 | o ::r,fr,st=>match o.guard with
  | none=>match yW T gl fr st o.op with
   |some (v,st')=>wQ T gl ops r (fr.put o.dst v) st'
   |none=>none
  | some (j,want)=>match xC ops fr j with
   | some b=>if b=some want then(match yW T gl fr st o.op with
     |some (v,st')=>wQ T gl ops r (fr.put o.dst v) st'
     |none=>none)else wQ T gl ops r (fr.put o.dst (.tuple [])) st
   |none=>none
section
variable {P:Program} {T:TypeId→TI} {gl:Nat→List V} {ops:Array Oper} {K:AFr→St→Prop}
theorem VD {f:Operand} {args:Array Operand} {tys:Array TypeId} {fr:AFr} {st:St}:zL P gl fr st (.call ⟨.value f,args,tys⟩)=none:=by simp [zL]
theorem bU {o:Oper} {fr:AFr} {st:St} {v:V} {st':St} {K:V→St→Prop} (h:zL P gl fr st o.op=some (v,st')) (k:K v st'):uO P gl o fr st K:=by
 unfold uO
 split
 ·rename_i f args tys he
  rw [he,VD]at h; cases h
 ·rw [h]; exact .inl k
theorem uv:∀(l:List Oper) (rest:List Oper) (fr:AFr) (st:St) (fr':AFr) (st':St),wQ (ti P) gl ops l fr st=some (fr',st')→wc P gl ops rest fr' st' K→wc P gl ops (l++rest) fr st K
 | [],rest,fr,st,fr',st',h,k=>by simp only [wQ]at h; injection h with h; injection h with h1 h2; subst h1 h2; exact k
 | o ::r,rest,fr,st,fr',st',h,k=>by
  simp only [wQ,ww]at h
  simp only [List.cons_append,wc]
  split at h
  ·rename_i hg
   rw [hg]
   split at h
   ·rename_i v st1 he
    exact bU (K:=fun v st'=>wc P gl ops (r++rest) (fr.put o.dst v) st' K) he (uv r rest _ _ _ _ h k)
   ·cases h
  ·rename_i j want hg
   rw [hg]
   split at h
   ·rename_i b hb
    simp only [hb]
    split at h
    ·rename_i hw
     split at h
     ·rename_i v st1 he
      exact⟨fun _=>bU (K:=fun v st'=>wc P gl ops (r++rest) (fr.put o.dst v) st' K) he (uv r rest _ _ _ _ h k),fun hn=>absurd hw hn⟩
     ·cases h
    ·rename_i hw
     exact⟨fun hn=>absurd hn hw,fun _=>uv r rest _ _ _ _ h k⟩
   ·cases h
theorem jQ (hT:T=ti P) (l rest:List Oper) (fr:AFr) (st:St) (fr':AFr) (st':St) (h:wQ T gl ops l fr st=some (fr',st')) (k:wc P gl ops rest fr' st' K):wc P gl ops (l++rest) fr st K:=by
 subst hT; exact uv l rest fr st fr' st' h k
def seg (ops:Array Oper) (i k:Nat):List Oper:=(ops.toList.drop i).take (k-i)
def uo (T:TypeId→TI) (gl:Nat→List V) (ops:Array Oper) (i k:Nat) (fr:AFr) (st:St):AFr×St:=(wQ T gl ops (seg ops i k) fr st).getD (⟨0,[]⟩,⟨[],[]⟩)
def zY (ops:Array Oper) (k:Nat):Option Tmp:=match ops.toList[k]? with|some o=>o.dst|none=>none
def pf (ops:Array Oper) (o:Oper) (fr:AFr):Bool:=match o.guard with
 |none=>true
 |some (j,want)=>match xC ops fr j with|some b=>decide (b=some want)|none=>false
def YK (T:TypeId→TI) (gl:Nat→List V) (ops:Array Oper) (i k:Nat) (fr:AFr) (st:St):Option (V×St):=
 match wQ T gl ops (seg ops i k) fr st with
 | some (fr1,st1)=>match ops.toList[k]? with
  |some o=>match pf ops o fr1 with|true=>yW T gl fr1 st1 o.op|false=>none
  |none=>none
 |none=>none
theorem ZR {ops:Array Oper} {i k:Nat} {o:Oper} (hk:ops.toList[k]? =some o) (hik:i≤k):ops.toList.drop i=seg ops i k++o::ops.toList.drop (k+1):=by
 have hlt:=zh hk
 have h1:ops.toList.drop i=(ops.toList.drop i).take (k-i)++(ops.toList.drop i).drop (k-i):=(List.take_append_drop _ _).symm
 rw [h1,List.drop_drop,show i+(k-i)=k by omega,List.drop_eq_getElem_cons hlt]
 rw [List.getElem?_eq_getElem hlt]at hk; injection hk with hk; rw [hk]
 rfl
theorem Y3 {o:Oper} {rest:List Oper} {fr:AFr} {st:St} (h:pf ops o fr=true) (k:uO P gl o fr st fun v st'=>wc P gl ops rest (fr.put o.dst v) st' K):wc P gl ops (o::rest) fr st K:=by
 simp only [wc]
 unfold pf at h
 split at h
 ·rename_i hg; rw [hg]; exact k
 ·rename_i j want hg
  rw [hg]
  simp only
  split at h
  ·rename_i b hb
   rw [hb]
   exact⟨fun _=>k,fun hn=>absurd (of_decide_eq_true h) hn⟩
  ·cases h
theorem Jy (hT:T=ti P) {i:Nat} {fr:AFr} {st:St} (k:Nat) {q:Option (V×St)} {v:V} {st':St} (hq:q=some (v,st')) (hik:Nat.ble i k=true) (he:YK T gl ops i k fr st=q)
  (h:wc P gl ops (ops.toList.drop (k+1)) ((uo T gl ops i k fr st).1.put (zY ops k) v) st' K):wc P gl ops (ops.toList.drop i) fr st K:=by
 subst hq
 unfold YK at he
 split at he
 ·rename_i fr1 st1 hr
  split at he
  ·rename_i o ho
   split at he
   ·rename_i hb
    rw [ZR ho (Nat.le_of_ble_eq_true hik)]
    have he':zL P gl fr1 st1 o.op=some (v,st'):=by rw [←ww,←hT]; exact he
    refine jQ hT _ _ _ _ _ _ hr (Y3 hb (bU he' ?_))
    simp only [uo,hr,Option.getD_some,zY,ho]at h
    exact h
   ·cases he
  ·cases he
 ·cases he
def uS (q:Option V) (st:St):Option (V×St):=match q with|some v=>some (v,st)|none=>none
theorem PW (hT:T=ti P) {i:Nat} {fr:AFr} {st:St} (k:Nat) {q:Option V} {v:V} (hq:q=some v) (hik:Nat.ble i k=true) (he:YK T gl ops i k fr st=uS q (uo T gl ops i k fr st).2)
  (h:wc P gl ops (ops.toList.drop (k+1)) ((uo T gl ops i k fr st).1.put (zY ops k) v) (uo T gl ops i k fr st).2 K):wc P gl ops (ops.toList.drop i) fr st K:=
 Jy hT k (q:=some (v,(uo T gl ops i k fr st).2)) rfl hik (by rw [he,hq]; rfl) h
def pj (T:TypeId→TI) (gl:Nat→List V) (ops:Array Oper) (i k:Nat) (fr:AFr) (st:St):Option (FuncId×List V):=
 match wQ T gl ops (seg ops i k) fr st with
 | some (fr1,st1)=>match ops.toList[k]? with
  | some o=>match pf ops o fr1 with
   | true=>match o.op with
    | .call ⟨.value f,args,_⟩=>kx (fr1.eval f) (args.toList.map fr1.eval)
    |_=>none
   |false=>none
  |none=>none
 |none=>none
theorem GH (hT:T=ti P) {i:Nat} {fr:AFr} {st:St} (k:Nat) {f:FuncId} {args:List V} {Q:V→St→Prop} (hik:Nat.ble i k=true) (he:pj T gl ops i k fr st=some (f,args))
  (hc:z2 P gl f args (uo T gl ops i k fr st).2 Q)
  (h:∀r st',Q r st'→wc P gl ops (ops.toList.drop (k+1)) ((uo T gl ops i k fr st).1.put (zY ops k) r) st' K):wc P gl ops (ops.toList.drop i) fr st K:=by
 unfold pj at he
 split at he
 ·rename_i fr1 st1 hr
  split at he
  ·rename_i o ho
   split at he
   ·rename_i hb
    split at he
    ·rename_i fo cargs tys hop
     rw [ZR ho (Nat.le_of_ble_eq_true hik)]
     refine jQ hT _ _ _ _ _ _ hr (Y3 hb ?_)
     simp only [uo,hr,Option.getD_some,zY,ho]at h hc
     unfold uO
     rw [hop]
     simp only
     rw [he]
     exact hc.mono h
    ·cases he
   ·cases he
  ·cases he
 ·cases he
def Out (r:V) (s:St):V→St→Prop:=fun r' s'=>r'=r∧s'=s
end
section
variable {st:St}
theorem Emb.pure (n m:Nat) (h1:n=st.vars.length) (h2:m=st.fams.length):Emb ⟨[],n,[],m⟩ ⟨[],[]⟩ st:=
 ⟨rfl,h1,rfl,h2, .nil, .nil,fun k cs h=>by simp at h,fun k p h=>by simp at h⟩
def GP (R:Ren) (st1 st:St):List Nat→List (List V)→Prop
 |i::σ,cs::r=>V.scs st1 cs∧(∃d,st.vars[i]? =some d∧vq (V.rens R cs) d)∧GP R st1 st σ r
 | [],[]=>True
 |_,_=>False
theorem GP.get {R:Ren} {st1 st:St}:∀ {σ:List Nat} {l:List (List V)},GP R st1 st σ l→∀(k:Nat) (cs:List V),l[k]? =some cs→V.scs st1 cs∧∃i d,σ[k]? =some i∧st.vars[i]? =some d∧vq (V.rens R cs) d
 | i::σ,c::r,h,0,cs,hk=>by
  simp at hk; subst hk
  obtain⟨h1,⟨d,h2,h3⟩,_⟩:=h
  exact⟨h1,i,d,rfl,h2,h3⟩
 |i::σ,c::r,h,k+1,cs,hk=>by simpa using GP.get h.2.2 k cs (by simpa using hk)
 | [],[],_,k,cs,hk=>by simp at hk
 | [],_::_,h,_,_,_=>h.elim
 |_::_,[],h,_,_,_=>h.elim
def cM (R:Ren) (st1 st:St):Bool:=
 (R.σ.length==st1.vars.length)&&(R.n==st.vars.length)&&(R.τ.length==st1.fams.length)&&(R.m==st.fams.length)&&decide R.σ.Nodup&&decide R.τ.Nodup
theorem Emb.vs {R:Ren} {st1 st:St} (h1:cM R st1 st=true) (h2:GP R st1 st R.σ st1.vars) (h3:R.τ.map (fun i=>st.fams[i]?)=st1.fams.map some):Emb R st1 st:=by
 simp only [cM,Bool.and_eq_true,beq_iff_eq,decide_eq_true_eq]at h1
 obtain⟨⟨⟨⟨⟨a1,a2⟩,a3⟩,a4⟩,a5⟩,a6⟩:=h1
 refine⟨a1,a2,a3,a4,a5,a6,fun k cs h=>h2.get k cs h, ?_⟩
 intro k p hp
 have hk:k<R.τ.length:=by rw [a3]; exact zh hp
 have:=congrArg (fun l=>l[k]?) h3
 simp only [List.getElem?_map,hp,List.getElem?_eq_getElem hk,Option.map_some,Option.some.injEq]at this
 exact⟨_,List.getElem?_eq_getElem hk,this⟩
end
end Go.Abs
end
