/- Layer: an abstract reading of values and worlds, and that the model's operations, regions, loops and calls keep to it. No condition beyond each statement's own. -/
import Derived.Test.YtbggpcnbbhjiaaaGreatDoorA27
set_option linter.unusedVariables false
set_option linter.unusedSimpArgs false
set_option linter.unnecessarySimpa false
section
namespace Go.Abs
open Go.RowKit (Below)
def wg (P:Program) (gl:Nat→List V) (ops:Array Oper) (i:Nat) (x:Cfg) (K:AFr→St→Prop):Prop:=j2 P gl ops (ops.toList.drop i) x.1 x.2 K
def ZH (x:Cfg) (d:Option Tmp) (v:V):Cfg:=match x with|(⟨n,l⟩,st)=>v.fc fun v'=>Wo n l d v' fun l'=>(⟨n,l'⟩,st)
theorem Vu (x:Cfg) (d:Option Tmp) (v:V):ZH x d v=(x.1.put d v,x.2):=by
 obtain⟨⟨n,l⟩,st⟩:=x
 simp only [ZH]
 rw [V.fc_eq,bR]
 cases d with
 |none=>rfl
 |some d=>simp only [AFr.put]; split<;>rfl
def jN (x:Cfg) (d:Option Tmp) (v:V) (F:St→St):Cfg:=match x with|(⟨n,l⟩,st)=>v.fc fun v'=>Wo n l d v' fun l'=>(F st).fc fun st'=>(⟨n,l'⟩,st')
theorem Zr (x:Cfg) (d:Option Tmp) (v:V) (F:St→St):jN x d v F=(x.1.put d v,F x.2):=by
 obtain⟨⟨n,l⟩,st⟩:=x
 simp only [jN]
 rw [V.fc_eq,bR,St.fc_eq]
 cases d with
 |none=>rfl
 |some d=>simp only [AFr.put]; split<;>rfl
section
variable {P:Program} {T:TypeId→TI} {gl:Nat→List V} {ops:Array Oper} {K:AFr→St→Prop}
theorem KH (hT:T=ti P) {i:Nat} {x:Cfg} (k:Nat) {q:Option V} {v:V} (hq:q=some v) (hik:Nat.ble i k=true) (he:pf T gl ops i k x=gS q (jl T gl ops i k x).2)
  (h:wg P gl ops (k+1) (ZH (jl T gl ops i k x) (xm ops k) v) K):wg P gl ops i x K:=by
 rw [bj,XM]at he
 rw [bj,Vu]at h
 exact P3 hT k hq hik he h
theorem P5 (hT:T=ti P) {i:Nat} {x:Cfg} (k d:Nat) (b:Bool) (hik:Nat.ble i k=true) (he:JK T gl ops i k x=some (d, .bool b))
  (ht:b=true→wg P gl ops k (ZH (jl T gl ops i k x) (some d) (.bool true)) K)
  (hf:b=false→wg P gl ops k (ZH (jl T gl ops i k x) (some d) (.bool false)) K):wg P gl ops i x K:=by
 rw [GO]at he
 simp only [bj,Vu]at ht hf
 exact Dv hT k d b hik he ht hf
def goB (T:TypeId→TI) (gl:Nat→List V) (ops:Array Oper) (i k:Nat) (x:Cfg) (R:Ren) (f:FuncId) (args1:List V) (st1:St):Bool:=match QQ T gl ops i k x,jl T gl ops i k x with
 |some (f',args),(_,st)=>Nat.ble i k&&Nat.beq f' f&&Q0 R st1 st args1 args
 |none,_=>false
def goR (T:TypeId→TI) (gl:Nat→List V) (ops:Array Oper) (i k:Nat) (x:Cfg) (R:Ren) (args1:List V) (st1:St):List (List V)×List (Option Nat)×List V:=match QQ T gl ops i k x,jl T gl ops i k x with
 |some (_,args),(_,st)=>callR R st1 st args1 args
 |none,_=>([],[],[])
theorem nD (hT:T=ti P) {i:Nat} {x:Cfg} (k:Nat) (R:Ren) {f:FuncId} {args1:List V} {st1 st1':St} {r:V} (hc:xR P gl f args1 st1 (Out r st1'))
  (hb:goB T gl ops i k x R f args1 st1=true) (he:callL R st1 args1=goR T gl ops i k x R args1 st1)
  (h:wg P gl ops (k+1) (jN (jl T gl ops i k x) (xm ops k) (V.ren R r) (fun st=>St.after R st st1')) K):wg P gl ops i x K:=by
 cases hq:QQ T gl ops i k x with
 |none=>simp only [goB,hq]at hb; cases hb
 | some y=>
  obtain⟨f',args⟩:=y
  simp only [goB,goR,hq,Bool.and_eq_true]at hb he
  obtain⟨⟨h1,h2⟩,h3⟩:=hb
  rw [DV]at hq
  rw [bj,Zr]at h
  rw [bj]at h3 he
  refine fS hT k R hc ?_ ?_ h
  ·simp only [DZ,Dr,QK,hq,h1,h2,h3,Option.isSome_some,Bool.and_self]
  ·simp only [QK,hq]; exact he
theorem mJ (hT:T=ti P) {i:Nat} {x:Cfg} (k t:Nat) {α:Type} (c:α→List V) {l l2 l':List α} {e e2:TypeId} {sz bytes b2:Nat} {tok2:Tok} (h1:u4 bytes l l2=some l')
  (hb:(Nat.ble i k&&kz T e sz bytes)=true) (he:((jl T gl ops i k x).2.fams[t]?,pf T gl ops i k x)=(some l.length,vf T (jl T gl ops i k x).2 (.slice e sz bytes) (.slice e2 sz b2) (.sl sz (l.map c) (.fam t l.length)) (.sl sz (l2.map c) tok2)))
  (h:wg P gl ops (k+1) (jN (jl T gl ops i k x) (xm ops k) (.sl sz (l'.map c) (.fam t l'.length)) (fun st=>st.setFam t l'.length)) K):wg P gl ops i x K:=by
 rw [bj,XM]at he
 rw [bj,Zr]at h
 exact c9 hT k t c h1 hb he h
theorem eA (hT:T=ti P) {i:Nat} {x:Cfg} (k:Nat) {α:Type} (c:α→List V) {l2 l':List α} {e e2:TypeId} {sz bytes b2:Nat} {tok2:Tok} (h1:u4 bytes [] l2=some l')
  (hb:(Nat.ble i k&&kz T e sz bytes)=true) (he:pf T gl ops i k x=vf T (jl T gl ops i k x).2 (.slice e sz bytes) (.slice e2 sz b2) .nilsl (.sl sz (l2.map c) tok2))
  (h:wg P gl ops (k+1) (jN (jl T gl ops i k x) (xm ops k) (.sl sz (l'.map c) (.fam (jl T gl ops i k x).2.fams.length l'.length)) (fun st=>st.pushFam l'.length)) K):wg P gl ops i x K:=by
 rw [bj,XM]at he
 rw [Zr,bj]at h
 exact PE hT k c h1 hb he h
theorem lh (hT:T=ti P) {i:Nat} {x:Cfg} (k:Nat) (s:List UInt8) (hik:Nat.ble i k=true) (he:pf T gl ops i k x=gS (some (.sl 1 (ji s) .none)) (jl T gl ops i k x).2)
  (h:wg P gl ops (k+1) (ZH (jl T gl ops i k x) (xm ops k) (.sl 1 ((s2b s).map (cI .u8)) .none)) K):wg P gl ops i x K:=
 KH hT k (q:=some (.sl 1 (ji s) .none)) (by rw [Q5]) hik he h
theorem eY (hT:T=ti P) {i:Nat} {x:Cfg} (k:Nat) (l:List Int) (hik:Nat.ble i k=true) (he:pf T gl ops i k x=gS (match qG (l.map (cI .u8))with|some b=>some (.str b)|none=>none) (jl T gl ops i k x).2)
  (h:wg P gl ops (k+1) (ZH (jl T gl ops i k x) (xm ops k) (.str (b2s l))) K):wg P gl ops i x K:=
 KH hT k (v:= .str (b2s l)) (by rw [Uq]) hik he h
def PG {R:Type} (T:TypeId→TI) (gl:Nat→List V) (ops:Array Oper) (i:Nat) (x:Cfg) (F:R) (K:AFr→St→R):R:=match x with
 |(⟨n,l⟩,st)=>pv T gl ops F (fun l' st'=>K ⟨n,l'⟩ st') (ops.toList.drop i) n l st
theorem B6 {R:Type} (T:TypeId→TI) (gl:Nat→List V) (ops:Array Oper) (i:Nat) (x:Cfg) (F:R) (K:AFr→St→R):
  PG T gl ops i x F K=(match kH T gl ops (ops.toList.drop i) x.1 x.2 with|some (fr1,st1)=>K fr1 st1|none=>F):=by
 obtain⟨⟨n,l⟩,st⟩:=x
 simp only [PG]
 rw [Wu]
 cases h:kH T gl ops (ops.toList.drop i) ⟨n,l⟩ st with
 |none=>rfl
 | some y=>
  obtain⟨fr,st'⟩:=y
  have hn:=(dW T gl ops () (fun _ _=>()) (ops.toList.drop i) n l st).2 fr st' h
  obtain⟨n',l'⟩:=fr
  simp only at hn; subst hn; rfl
def c6 (T:TypeId→TI) (gl:Nat→List V) (ops:Array Oper) (i:Nat) (x:Cfg) (s0:St) (R:Ren) (fr':AFr) (st':St):Bool:=PG T gl ops i x false fun fr st=>wkB s0 R fr st fr' st'
def cC (T:TypeId→TI) (gl:Nat→List V) (ops:Array Oper) (i:Nat) (x:Cfg) (R:Ren) (fr':AFr) (st':St):List (List V)×List (Option Nat)×List V:=PG T gl ops i x ([],[],[]) fun fr st=>wkR R fr st fr' st'
theorem lI (hT:T=ti P) {s0:St} {i:Nat} {x:Cfg} {fr':AFr} {st':St} (R:Ren) (hb:c6 T gl ops i x s0 R fr' st'=true) (he:wkL R fr' st'=cC T gl ops i x R fr' st'):
  wg P gl ops i x (toW s0 fr' st'):=by
 rw [c6,B6]at hb
 rw [cC,B6]at he
 cases hr:kH T gl ops (ops.toList.drop i) x.1 x.2 with
 |none=>rw [hr]at hb; cases hb
 | some y=>
  obtain⟨fr1,st1⟩:=y
  rw [hr]at hb he
  have:=Zg (K:=toW s0 fr' st') hT (ops.toList.drop i) [] x.1 x.2 fr1 st1 hr (Wk.gen R hb he)
  rw [List.append_nil]at this; exact this
theorem UR {s0:St} {cs:List Code} {AQ:Exit→AFr→St→Prop} {id:Nat} {ops:Array Oper} {fr:AFr} {st:St} (fr':AFr) (st':St) (hcl:Cl s0 (zG P gl s0 cs AQ)) (h:wg P gl ops 0 (fr,st) (toW s0 fr' st'))
  (h2:zG P gl s0 cs AQ fr' st'):zG P gl s0 (.region id ops false::cs) AQ fr st:=fM fr' st' hcl h h2
end
section
variable {s0:St} {AQ:Exit→AFr→St→Prop} {K:AFr→St→Prop} {fr:AFr} {st:St}
theorem zF {id:Nat} (h:AQ (.exit id) fr st):vE K AQ (.exit id) fr st:=h
theorem ym (h:AQ .ret fr st):vE K AQ .ret fr st:=h
theorem zU {id:Nat} (h:AQ .ret fr st):bD id (vE K AQ) .ret fr st:=h
theorem yj {Y:Type} {id:Nat} {F:Y→AFr} {S:Y→St} {L:Y→Prop} (h:AQ .ret fr st):dc s0 id F S L AQ .ret fr st:=h
end
attribute [irreducible] wg
end Go.Abs
end
