/- Abstract values: a part. No condition beyond each statement's own. -/
import Derived.Test.YtkabooclnoiclaaGreatDoorA21
set_option linter.all false
section
namespace Go.Abs
open Go.RowKit (Below)
def wX (T:TypeId→TI) (gl:Nat→List V) (ops:Array Oper):List Oper→AFr→St→Option (AFr×St)
 | [],fr,st=>some (fr,st)
 | o ::r,fr,st=>match o.guard with
  | none=>match yZ T gl fr st o.op with
   |some (v,st')=>wX T gl ops r (fr.put o.dst v) st'
   |none=>none
  | some (j,want)=>match xH ops fr j with
   | some b=>if b=some want then(match yZ T gl fr st o.op with
     |some (v,st')=>wX T gl ops r (fr.put o.dst v) st'
     |none=>none)else wX T gl ops r (fr.put o.dst (.tuple [])) st
   |none=>none
section
variable {P:Program} {T:TypeId→TI} {gl:Nat→List V} {ops:Array Oper} {K:AFr→St→Prop}
theorem Ub {f:Operand} {args:Array Operand} {tys:Array TypeId} {fr:AFr} {st:St}:zP P gl fr st (.call ⟨.value f,args,tys⟩)=none:=by simp [zP]
theorem gc {o:Oper} {fr:AFr} {st:St} {v:V} {st':St} {K:V→St→Prop} (h:zP P gl fr st o.op=some (v,st')) (k:K v st'):u5 P gl o fr st K:=by
 unfold u5
 split
 ·rename_i f args tys he
  rw [he,Ub]at h; cases h
 ·rw [h]; exact .inl k
theorem uQ:∀(l:List Oper) (rest:List Oper) (fr:AFr) (st:St) (fr':AFr) (st':St),wX (ti P) gl ops l fr st=some (fr',st')→wi P gl ops rest fr' st' K→wi P gl ops (l++rest) fr st K
 | [],rest,fr,st,fr',st',h,k=>by simp only [wX]at h; injection h with h; injection h with h1 h2; subst h1 h2; exact k
 | o ::r,rest,fr,st,fr',st',h,k=>by
  simp only [wX,wA]at h
  simp only [List.cons_append,wi]
  split at h
  ·rename_i hg
   rw [hg]
   split at h
   ·rename_i v st1 he
    exact gc (K:=fun v st'=>wi P gl ops (r++rest) (fr.put o.dst v) st' K) he (uQ r rest _ _ _ _ h k)
   ·cases h
  ·rename_i j want hg
   rw [hg]
   split at h
   ·rename_i b hb
    simp only [hb]
    split at h
    ·rename_i hw
     split at h
     ·rename_i v st1 he
      exact⟨fun _=>gc (K:=fun v st'=>wi P gl ops (r++rest) (fr.put o.dst v) st' K) he (uQ r rest _ _ _ _ h k),fun hn=>absurd hw hn⟩
     ·cases h
    ·rename_i hw
     exact⟨fun hn=>absurd hn hw,fun _=>uQ r rest _ _ _ _ h k⟩
   ·cases h
theorem j0 (hT:T=ti P) (l rest:List Oper) (fr:AFr) (st:St) (fr':AFr) (st':St) (h:wX T gl ops l fr st=some (fr',st')) (k:wi P gl ops rest fr' st' K):wi P gl ops (l++rest) fr st K:=by
 subst hT; exact uQ l rest fr st fr' st' h k
def seg (ops:Array Oper) (i k:Nat):List Oper:=(ops.toList.drop i).take (k-i)
def uL (T:TypeId→TI) (gl:Nat→List V) (ops:Array Oper) (i k:Nat) (fr:AFr) (st:St):AFr×St:=(wX T gl ops (seg ops i k) fr st).getD (⟨0,[]⟩,⟨[],[]⟩)
def z2 (ops:Array Oper) (k:Nat):Option Tmp:=match ops.toList[k]? with|some o=>o.dst|none=>none
def pA (ops:Array Oper) (o:Oper) (fr:AFr):Bool:=match o.guard with
 |none=>true
 |some (j,want)=>match xH ops fr j with|some b=>decide (b=some want)|none=>false
def Y8 (T:TypeId→TI) (gl:Nat→List V) (ops:Array Oper) (i k:Nat) (fr:AFr) (st:St):Option (V×St):=
 match wX T gl ops (seg ops i k) fr st with
 | some (fr1,st1)=>match ops.toList[k]? with
  |some o=>match pA ops o fr1 with|true=>yZ T gl fr1 st1 o.op|false=>none
  |none=>none
 |none=>none
theorem Z9 {ops:Array Oper} {i k:Nat} {o:Oper} (hk:ops.toList[k]? =some o) (hik:i≤k):ops.toList.drop i=seg ops i k++o::ops.toList.drop (k+1):=by
 have hlt:=zj hk
 have h1:ops.toList.drop i=(ops.toList.drop i).take (k-i)++(ops.toList.drop i).drop (k-i):=(List.take_append_drop _ _).symm
 rw [h1,List.drop_drop,show i+(k-i)=k by omega,List.drop_eq_getElem_cons hlt]
 rw [List.getElem?_eq_getElem hlt]at hk; injection hk with hk; rw [hk]
 rfl
theorem Xq {o:Oper} {rest:List Oper} {fr:AFr} {st:St} (h:pA ops o fr=true) (k:u5 P gl o fr st fun v st'=>wi P gl ops rest (fr.put o.dst v) st' K):wi P gl ops (o::rest) fr st K:=by
 simp only [wi]
 unfold pA at h
 split at h
 ·rename_i hg; rw [hg]; exact k
 ·rename_i j want hg
  rw [hg]
  simp only
  split at h
  ·rename_i b hb
   rw [hb]
   exact⟨fun _=>k,fun hn=>absurd (of_decide_eq_true h) hn⟩
  ·cases h
theorem Qf (hT:T=ti P) {i:Nat} {fr:AFr} {st:St} (k:Nat) {q:Option (V×St)} {v:V} {st':St} (hq:q=some (v,st')) (hik:Nat.ble i k=true) (he:Y8 T gl ops i k fr st=q)
  (h:wi P gl ops (ops.toList.drop (k+1)) ((uL T gl ops i k fr st).1.put (z2 ops k) v) st' K):wi P gl ops (ops.toList.drop i) fr st K:=by
 subst hq
 unfold Y8 at he
 split at he
 ·rename_i fr1 st1 hr
  split at he
  ·rename_i o ho
   split at he
   ·rename_i hb
    rw [Z9 ho (iD hik)]
    have he':zP P gl fr1 st1 o.op=some (v,st'):=by rw [←wA,←hT]; exact he
    refine j0 hT _ _ _ _ _ _ hr (Xq hb (gc he' ?_))
    simp only [uL,hr,Option.getD_some,z2,ho]at h
    exact h
   ·cases he
  ·cases he
 ·cases he
def u9 (q:Option V) (st:St):Option (V×St):=match q with|some v=>some (v,st)|none=>none
theorem fB (hT:T=ti P) {i:Nat} {fr:AFr} {st:St} (k:Nat) {q:Option V} {v:V} (hq:q=some v) (hik:Nat.ble i k=true) (he:Y8 T gl ops i k fr st=u9 q (uL T gl ops i k fr st).2)
  (h:wi P gl ops (ops.toList.drop (k+1)) ((uL T gl ops i k fr st).1.put (z2 ops k) v) (uL T gl ops i k fr st).2 K):wi P gl ops (ops.toList.drop i) fr st K:=
 Qf hT k (q:=some (v,(uL T gl ops i k fr st).2)) rfl hik (by rw [he,hq]; rfl) h
def pE (T:TypeId→TI) (gl:Nat→List V) (ops:Array Oper) (i k:Nat) (fr:AFr) (st:St):Option (FuncId×List V):=
 match wX T gl ops (seg ops i k) fr st with
 | some (fr1,st1)=>match ops.toList[k]? with
  | some o=>match pA ops o fr1 with
   | true=>match o.op with
    | .call ⟨.value f,args,_⟩=>kM (fr1.eval f) (args.toList.map fr1.eval)
    |_=>none
   |false=>none
  |none=>none
 |none=>none
theorem DQ (hT:T=ti P) {i:Nat} {fr:AFr} {st:St} (k:Nat) {f:FuncId} {args:List V} {Q:V→St→Prop} (hik:Nat.ble i k=true) (he:pE T gl ops i k fr st=some (f,args))
  (hc:z6 P gl f args (uL T gl ops i k fr st).2 Q)
  (h:∀r st',Q r st'→wi P gl ops (ops.toList.drop (k+1)) ((uL T gl ops i k fr st).1.put (z2 ops k) r) st' K):wi P gl ops (ops.toList.drop i) fr st K:=by
 unfold pE at he
 split at he
 ·rename_i fr1 st1 hr
  split at he
  ·rename_i o ho
   split at he
   ·rename_i hb
    split at he
    ·rename_i fo cargs tys hop
     rw [Z9 ho (iD hik)]
     refine j0 hT _ _ _ _ _ _ hr (Xq hb ?_)
     simp only [uL,hr,Option.getD_some,z2,ho]at h hc
     unfold u5
     rw [hop]
     simp only
     rw [he]
     exact hc.mono h
    ·cases he
   ·cases he
  ·cases he
 ·cases he
def Out (r:V) (s:St):V→St→Prop:=fun r' s'=>r'=r∧s'=s
end
section
variable {st:St}
theorem Emb.pure (n m:Nat) (h1:n=st.vars.length) (h2:m=st.fams.length):Emb ⟨[],n,[],m⟩ ⟨[],[]⟩ st:=
 ⟨rfl,h1,rfl,h2, .nil, .nil,fun k cs h=>by simp at h,fun k p h=>by simp at h⟩
def D1 (R:Ren) (st1 st:St):List Nat→List (List V)→Prop
 |i::σ,cs::r=>V.scs st1 cs∧(∃d,st.vars[i]? =some d∧vE (V.rens R cs) d)∧D1 R st1 st σ r
 | [],[]=>True
 |_,_=>False
theorem D1.get {R:Ren} {st1 st:St}:∀ {σ:List Nat} {l:List (List V)},D1 R st1 st σ l→∀(k:Nat) (cs:List V),l[k]? =some cs→V.scs st1 cs∧∃i d,σ[k]? =some i∧st.vars[i]? =some d∧vE (V.rens R cs) d
 | i::σ,c::r,h,0,cs,hk=>by
  simp at hk; subst hk
  obtain⟨h1,⟨d,h2,h3⟩,_⟩:=h
  exact⟨h1,i,d,rfl,h2,h3⟩
 |i::σ,c::r,h,k+1,cs,hk=>by simpa using D1.get h.2.2 k cs (O5 hk)
 | [],[],_,k,cs,hk=>by simp at hk
 | [],_::_,h,_,_,_=>h.elim
 |_::_,[],h,_,_,_=>h.elim
def lv (R:Ren) (st1 st:St):Bool:=
 (R.σ.length==st1.vars.length)&&(R.n==st.vars.length)&&(R.τ.length==st1.fams.length)&&(R.m==st.fams.length)&&decide R.σ.Nodup&&decide R.τ.Nodup
theorem Emb.vs {R:Ren} {st1 st:St} (h1:lv R st1 st=true) (h2:D1 R st1 st R.σ st1.vars) (h3:R.τ.map (fun i=>st.fams[i]?)=st1.fams.map some):Emb R st1 st:=by
 simp only [lv,iF,beq_iff_eq,decide_eq_true_eq]at h1
 obtain⟨⟨⟨⟨⟨a1,a2⟩,a3⟩,a4⟩,a5⟩,a6⟩:=h1
 refine⟨a1,a2,a3,a4,a5,a6,fun k cs h=>h2.get k cs h, ?_⟩
 intro k p hp
 have hk:k<R.τ.length:=by rw [a3]; exact zj hp
 have:=congrArg (fun l=>l[k]?) h3
 simp only [List.getElem?_map,hp,List.getElem?_eq_getElem hk,Option.map_some,Option.some.injEq]at this
 exact⟨_,List.getElem?_eq_getElem hk,this⟩
end
end Go.Abs
end
