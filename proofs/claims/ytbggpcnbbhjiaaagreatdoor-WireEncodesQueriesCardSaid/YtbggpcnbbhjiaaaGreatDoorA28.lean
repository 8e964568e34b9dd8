/- Layer: an abstract reading of values and worlds, and that the model's operations, regions, loops and calls keep to it. No condition beyond each statement's own. -/
import Derived.Test.YtbggpcnbbhjiaaaGreatDoorA27
set_option linter.unusedVariables false
set_option linter.unusedSimpArgs false
set_option linter.unnecessarySimpa false
section
namespace Go.Abs
open Go.RowKit (Below)
def wD (P:Program) (gl:Nat→List V) (ops:Array Oper) (i:Nat) (x:Cfg) (K:AFr→St→Prop):Prop:=kl P gl ops (ops.toList.drop i) x.1 x.2 K
def YD (x:Cfg) (d:Option Tmp) (v:V):Cfg:=match x with|(⟨n,l⟩,st)=>v.fc fun v'=>Vh n l d v' fun l'=>(⟨n,l'⟩,st)
theorem V7 (x:Cfg) (d:Option Tmp) (v:V):YD x d v=(x.1.put d v,x.2):=by
 obtain⟨⟨n,l⟩,st⟩:=x
 simp only [YD]
 rw [V.fc_eq,gW]
 cases d with
 |none=>rfl
 |some d=>simp only [AFr.put]; split<;>rfl
def qt (x:Cfg) (d:Option Tmp) (v:V) (F:St→St):Cfg:=match x with|(⟨n,l⟩,st)=>v.fc fun v'=>Vh n l d v' fun l'=>(F st).fc fun st'=>(⟨n,l'⟩,st')
theorem pZ (x:Cfg) (d:Option Tmp) (v:V) (F:St→St):qt x d v F=(x.1.put d v,F x.2):=by
 obtain⟨⟨n,l⟩,st⟩:=x
 simp only [qt]
 rw [V.fc_eq,gW,St.fc_eq]
 cases d with
 |none=>rfl
 |some d=>simp only [AFr.put]; split<;>rfl
section
variable {P:Program} {T:TypeId→TI} {gl:Nat→List V} {ops:Array Oper} {K:AFr→St→Prop}
theorem BC (hT:T=ti P) {i:Nat} {x:Cfg} (k:Nat) {q:Option V} {v:V} (hq:q=some v) (hik:Nat.ble i k=true) (he:Zl T gl ops i k x=pw q (jU T gl ops i k x).2)
  (h:wD P gl ops (k+1) (YD (jU T gl ops i k x) (xm ops k) v) K):wD P gl ops i x K:=by
 rw [bQ,WG]at he
 rw [bQ,V7]at h
 exact cT hT k hq hik he h
theorem fd (hT:T=ti P) {i:Nat} {x:Cfg} (k d:Nat) (b:Bool) (hik:Nat.ble i k=true) (he:JR T gl ops i k x=some (d, .bool b))
  (ht:b=true→wD P gl ops k (YD (jU T gl ops i k x) (some d) (.bool true)) K)
  (hf:b=false→wD P gl ops k (YD (jU T gl ops i k x) (some d) (.bool false)) K):wD P gl ops i x K:=by
 rw [G8]at he
 simp only [bQ,V7]at ht hf
 exact cu hT k d b hik he ht hf
def goB (T:TypeId→TI) (gl:Nat→List V) (ops:Array Oper) (i k:Nat) (x:Cfg) (R:Ren) (f:FuncId) (args1:List V) (st1:St):Bool:=match KF T gl ops i k x,jU T gl ops i k x with
 |some (f',args),(_,st)=>Nat.ble i k&&Nat.beq f' f&&Q5 R st1 st args1 args
 |none,_=>false
def goR (T:TypeId→TI) (gl:Nat→List V) (ops:Array Oper) (i k:Nat) (x:Cfg) (R:Ren) (args1:List V) (st1:St):List (List V)×List (Option Nat)×List V:=match KF T gl ops i k x,jU T gl ops i k x with
 |some (_,args),(_,st)=>callR R st1 st args1 args
 |none,_=>([],[],[])
theorem oU (hT:T=ti P) {i:Nat} {x:Cfg} (k:Nat) (R:Ren) {f:FuncId} {args1:List V} {st1 st1':St} {r:V} (hc:wN P gl f args1 st1 (Out r st1'))
  (hb:goB T gl ops i k x R f args1 st1=true) (he:callL R st1 args1=goR T gl ops i k x R args1 st1)
  (h:wD P gl ops (k+1) (qt (jU T gl ops i k x) (xm ops k) (V.ren R r) (fun st=>St.after R st st1')) K):wD P gl ops i x K:=by
 cases hq:KF T gl ops i k x with
 |none=>simp only [goB,hq]at hb; cases hb
 | some y=>
  obtain⟨f',args⟩:=y
  simp only [goB,goR,hq,Bool.and_eq_true]at hb he
  obtain⟨⟨h1,h2⟩,h3⟩:=hb
  rw [PF]at hq
  rw [bQ,pZ]at h
  rw [bQ]at h3 he
  refine mS hT k R hc ?_ ?_ h
  ·simp only [cf,PU,Q0,hq,h1,h2,h3,Option.isSome_some,Bool.and_self]
  ·simp only [Q0,hq]; exact he
theorem mz (hT:T=ti P) {i:Nat} {x:Cfg} (k t:Nat) {α:Type} (c:α→List V) {l l2 l':List α} {e e2:TypeId} {sz bytes b2:Nat} {tok2:Tok} (h1:jV bytes l l2=some l')
  (hb:(Nat.ble i k&&bp T e sz bytes)=true) (he:((jU T gl ops i k x).2.fams[t]?,Zl T gl ops i k x)=(some l.length,vt T (jU T gl ops i k x).2 (.slice e sz bytes) (.slice e2 sz b2) (.sl sz (l.map c) (.fam t l.length)) (.sl sz (l2.map c) tok2)))
  (h:wD P gl ops (k+1) (qt (jU T gl ops i k x) (xm ops k) (.sl sz (l'.map c) (.fam t l'.length)) (fun st=>st.setFam t l'.length)) K):wD P gl ops i x K:=by
 rw [bQ,WG]at he
 rw [bQ,pZ]at h
 exact fK hT k t c h1 hb he h
theorem fN (hT:T=ti P) {i:Nat} {x:Cfg} (k:Nat) {α:Type} (c:α→List V) {l2 l':List α} {e e2:TypeId} {sz bytes b2:Nat} {tok2:Tok} (h1:jV bytes [] l2=some l')
  (hb:(Nat.ble i k&&bp T e sz bytes)=true) (he:Zl T gl ops i k x=vt T (jU T gl ops i k x).2 (.slice e sz bytes) (.slice e2 sz b2) .nilsl (.sl sz (l2.map c) tok2))
  (h:wD P gl ops (k+1) (qt (jU T gl ops i k x) (xm ops k) (.sl sz (l'.map c) (.fam (jU T gl ops i k x).2.fams.length l'.length)) (fun st=>st.pushFam l'.length)) K):wD P gl ops i x K:=by
 rw [bQ,WG]at he
 rw [pZ,bQ]at h
 exact cP hT k c h1 hb he h
theorem mR (hT:T=ti P) {i:Nat} {x:Cfg} (k:Nat) (s:List UInt8) (hik:Nat.ble i k=true) (he:Zl T gl ops i k x=pw (some (.sl 1 (qd s) .none)) (jU T gl ops i k x).2)
  (h:wD P gl ops (k+1) (YD (jU T gl ops i k x) (xm ops k) (.sl 1 ((s2b s).map (cI .u8)) .none)) K):wD P gl ops i x K:=
 BC hT k (q:=some (.sl 1 (qd s) .none)) (by rw [Qq]) hik he h
theorem lT (hT:T=ti P) {i:Nat} {x:Cfg} (k:Nat) (l:List Int) (hik:Nat.ble i k=true) (he:Zl T gl ops i k x=pw (match bg (l.map (cI .u8))with|some b=>some (.str b)|none=>none) (jU T gl ops i k x).2)
  (h:wD P gl ops (k+1) (YD (jU T gl ops i k x) (xm ops k) (.str (b2s l))) K):wD P gl ops i x K:=
 BC hT k (v:= .str (b2s l)) (by rw [UL]) hik he h
def ee {R:Type} (T:TypeId→TI) (gl:Nat→List V) (ops:Array Oper) (i:Nat) (x:Cfg) (F:R) (K:AFr→St→R):R:=match x with
 |(⟨n,l⟩,st)=>Zx T gl ops F (fun l' st'=>K ⟨n,l'⟩ st') (ops.toList.drop i) n l st
theorem Ge {R:Type} (T:TypeId→TI) (gl:Nat→List V) (ops:Array Oper) (i:Nat) (x:Cfg) (F:R) (K:AFr→St→R):
  ee T gl ops i x F K=(match bS T gl ops (ops.toList.drop i) x.1 x.2 with|some (fr1,st1)=>K fr1 st1|none=>F):=by
 obtain⟨⟨n,l⟩,st⟩:=x
 simp only [ee]
 rw [W9]
 cases h:bS T gl ops (ops.toList.drop i) ⟨n,l⟩ st with
 |none=>rfl
 | some y=>
  obtain⟨fr,st'⟩:=y
  have hn:=(Zj T gl ops () (fun _ _=>()) (ops.toList.drop i) n l st).2 fr st' h
  obtain⟨n',l'⟩:=fr
  simp only at hn; subst hn; rfl
def lA (T:TypeId→TI) (gl:Nat→List V) (ops:Array Oper) (i:Nat) (x:Cfg) (s0:St) (R:Ren) (fr':AFr) (st':St):Bool:=ee T gl ops i x false fun fr st=>wkB s0 R fr st fr' st'
def lI (T:TypeId→TI) (gl:Nat→List V) (ops:Array Oper) (i:Nat) (x:Cfg) (R:Ren) (fr':AFr) (st':St):List (List V)×List (Option Nat)×List V:=ee T gl ops i x ([],[],[]) fun fr st=>wkR R fr st fr' st'
theorem mV (hT:T=ti P) {s0:St} {i:Nat} {x:Cfg} {fr':AFr} {st':St} (R:Ren) (hb:lA T gl ops i x s0 R fr' st'=true) (he:wkL R fr' st'=lI T gl ops i x R fr' st'):
  wD P gl ops i x (toW s0 fr' st'):=by
 rw [lA,Ge]at hb
 rw [lI,Ge]at he
 cases hr:bS T gl ops (ops.toList.drop i) x.1 x.2 with
 |none=>rw [hr]at hb; cases hb
 | some y=>
  obtain⟨fr1,st1⟩:=y
  rw [hr]at hb he
  have:=pH (K:=toW s0 fr' st') hT (ops.toList.drop i) [] x.1 x.2 fr1 st1 hr (Wk.gen R hb he)
  rw [List.append_nil]at this; exact this
theorem Jv {s0:St} {cs:List Code} {AQ:Exit→AFr→St→Prop} {id:Nat} {ops:Array Oper} {fr:AFr} {st:St} (fr':AFr) (st':St) (hcl:Cl s0 (zH P gl s0 cs AQ)) (h:wD P gl ops 0 (fr,st) (toW s0 fr' st'))
  (h2:zH P gl s0 cs AQ fr' st'):zH P gl s0 (.region id ops false::cs) AQ fr st:=mg fr' st' hcl h h2
end
section
variable {s0:St} {AQ:Exit→AFr→St→Prop} {K:AFr→St→Prop} {fr:AFr} {st:St}
theorem zx {id:Nat} (h:AQ (.exit id) fr st):uU K AQ (.exit id) fr st:=h
theorem zV (h:AQ .ret fr st):uU K AQ .ret fr st:=h
theorem zP {id:Nat} (h:AQ .ret fr st):gU id (uU K AQ) .ret fr st:=h
theorem zR {Y:Type} {id:Nat} {F:Y→AFr} {S:Y→St} {L:Y→Prop} (h:AQ .ret fr st):pr s0 id F S L AQ .ret fr st:=h
end
attribute [irreducible] wD
end Go.Abs
end
