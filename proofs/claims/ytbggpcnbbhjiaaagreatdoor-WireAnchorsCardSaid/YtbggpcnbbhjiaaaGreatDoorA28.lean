/- Layer: an abstract reading of values and worlds, and that the model's operations, regions, loops and calls keep to it. No condition beyond each statement's own. -/
import Derived.Test.YtbggpcnbbhjiaaaGreatDoorA27
set_option linter.unusedVariables false
set_option linter.unusedSimpArgs false
set_option linter.unnecessarySimpa false
section
namespace Go.Abs
open Go.RowKit (Below)
def wh (P:Program) (gl:Nat→List V) (ops:Array Oper) (i:Nat) (x:Cfg) (K:AFr→St→Prop):Prop:=qH P gl ops (ops.toList.drop i) x.1 x.2 K
def ZB (x:Cfg) (d:Option Tmp) (v:V):Cfg:=match x with|(⟨n,l⟩,st)=>v.fc fun v'=>Wo n l d v' fun l'=>(⟨n,l'⟩,st)
theorem W6 (x:Cfg) (d:Option Tmp) (v:V):ZB x d v=(x.1.put d v,x.2):=by
 obtain⟨⟨n,l⟩,st⟩:=x
 simp only [ZB]
 rw [V.fc_eq,bY]
 cases d with
 |none=>rfl
 |some d=>simp only [AFr.put]; split<;>rfl
def qe (x:Cfg) (d:Option Tmp) (v:V) (F:St→St):Cfg:=match x with|(⟨n,l⟩,st)=>v.fc fun v'=>Wo n l d v' fun l'=>(F st).fc fun st'=>(⟨n,l'⟩,st')
theorem pX (x:Cfg) (d:Option Tmp) (v:V) (F:St→St):qe x d v F=(x.1.put d v,F x.2):=by
 obtain⟨⟨n,l⟩,st⟩:=x
 simp only [qe]
 rw [V.fc_eq,bY,St.fc_eq]
 cases d with
 |none=>rfl
 |some d=>simp only [AFr.put]; split<;>rfl
section
variable {P:Program} {T:TypeId→TI} {gl:Nat→List V} {ops:Array Oper} {K:AFr→St→Prop}
theorem KG (hT:T=ti P) {i:Nat} {x:Cfg} (k:Nat) {q:Option V} {v:V} (hq:q=some v) (hik:Nat.ble i k=true) (he:Zu T gl ops i k x=dB q (qd T gl ops i k x).2)
  (h:wh P gl ops (k+1) (ZB (qd T gl ops i k x) (xt ops k) v) K):wh P gl ops i x K:=by
 rw [gc,VL]at he
 rw [gc,W6]at h
 exact Pm hT k hq hik he h
theorem PC (hT:T=ti P) {i:Nat} {x:Cfg} (k d:Nat) (b:Bool) (hik:Nat.ble i k=true) (he:Jy T gl ops i k x=some (d,.bool b))
  (ht:b=true→wh P gl ops k (ZB (qd T gl ops i k x) (some d) (.bool true)) K)
  (hf:b=false→wh P gl ops k (ZB (qd T gl ops i k x) (some d) (.bool false)) K):wh P gl ops i x K:=by
 rw [Gx]at he
 simp only [gc,W6]at ht hf
 exact G8 hT k d b hik he ht hf
def goB (T:TypeId→TI) (gl:Nat→List V) (ops:Array Oper) (i k:Nat) (x:Cfg) (R:Ren) (f:FuncId) (args1:List V) (st1:St):Bool:=match Qg T gl ops i k x,qd T gl ops i k x with
 |some (f',args),(_,st)=>Nat.ble i k&&Nat.beq f' f&&Qa R st1 st args1 args
 |none,_=>false
def goR (T:TypeId→TI) (gl:Nat→List V) (ops:Array Oper) (i k:Nat) (x:Cfg) (R:Ren) (args1:List V) (st1:St):List (List V)×List (Option Nat)×List V:=match Qg T gl ops i k x,qd T gl ops i k x with
 |some (_,args),(_,st)=>callR R st1 st args1 args
 |none,_=>([],[],[])
theorem mE (hT:T=ti P) {i:Nat} {x:Cfg} (k:Nat) (R:Ren) {f:FuncId} {args1:List V} {st1 st1':St} {r:V} (hc:wj P gl f args1 st1 (Out r st1'))
  (hb:goB T gl ops i k x R f args1 st1=true) (he:callL R st1 args1=goR T gl ops i k x R args1 st1)
  (h:wh P gl ops (k+1) (qe (qd T gl ops i k x) (xt ops k) (V.ren R r) (fun st=>St.after R st st1')) K):wh P gl ops i x K:=by
 cases hq:Qg T gl ops i k x with
 |none=>simp only [goB,hq]at hb; cases hb
 | some y=>
  obtain⟨f',args⟩:=y
  simp only [goB,goR,hq,Bool.and_eq_true]at hb he
  obtain⟨⟨h1,h2⟩,h3⟩:=hb
  rw [DZ]at hq
  rw [gc,pX]at h
  rw [gc]at h3 he
  refine lR hT k R hc ?_ ?_ h
  ·simp only [DT,G4,J3,hq,h1,h2,h3,Option.isSome_some,Bool.and_self]
  ·simp only [J3,hq]; exact he
theorem eS (hT:T=ti P) {i:Nat} {x:Cfg} (k t:Nat) {α:Type} (c:α→List V) {l l2 l':List α} {e e2:TypeId} {sz bytes b2:Nat} {tok2:Tok} (h1:q7 bytes l l2=some l')
  (hb:(Nat.ble i k&&gy T e sz bytes)=true) (he:((qd T gl ops i k x).2.fams[t]?,Zu T gl ops i k x)=(some l.length,uP T (qd T gl ops i k x).2 (.slice e sz bytes) (.slice e2 sz b2) (.sl sz (l.map c) (.fam t l.length)) (.sl sz (l2.map c) tok2)))
  (h:wh P gl ops (k+1) (qe (qd T gl ops i k x) (xt ops k) (.sl sz (l'.map c) (.fam t l'.length)) (fun st=>st.setFam t l'.length)) K):wh P gl ops i x K:=by
 rw [gc,VL]at he
 rw [gc,pX]at h
 exact cY hT k t c h1 hb he h
theorem fd (hT:T=ti P) {i:Nat} {x:Cfg} (k:Nat) (s:List UInt8) (hik:Nat.ble i k=true) (he:Zu T gl ops i k x=dB (some (.sl 1 (jy s) .none)) (qd T gl ops i k x).2)
  (h:wh P gl ops (k+1) (ZB (qd T gl ops i k x) (xt ops k) (.sl 1 ((s2b s).map (cI .u8)) .none)) K):wh P gl ops i x K:=
 KG hT k (q:=some (.sl 1 (jy s) .none)) (by rw [QQ]) hik he h
theorem hP (hT:T=ti P) {i:Nat} {x:Cfg} (k:Nat) (l:List Int) (hik:Nat.ble i k=true) (he:Zu T gl ops i k x=dB (match kc (l.map (cI .u8))with|some b=>some (.str b)|none=>none) (qd T gl ops i k x).2)
  (h:wh P gl ops (k+1) (ZB (qd T gl ops i k x) (xt ops k) (.str (b2s l))) K):wh P gl ops i x K:=
 KG hT k (v:= .str (b2s l)) (by rw [VM]) hik he h
def PN {R:Type} (T:TypeId→TI) (gl:Nat→List V) (ops:Array Oper) (i:Nat) (x:Cfg) (F:R) (K:AFr→St→R):R:=match x with
 |(⟨n,l⟩,st)=>px T gl ops F (fun l' st'=>K ⟨n,l'⟩ st') (ops.toList.drop i) n l st
theorem B9 {R:Type} (T:TypeId→TI) (gl:Nat→List V) (ops:Array Oper) (i:Nat) (x:Cfg) (F:R) (K:AFr→St→R):
  PN T gl ops i x F K=(match kY T gl ops (ops.toList.drop i) x.1 x.2 with|some (fr1,st1)=>K fr1 st1|none=>F):=by
 obtain⟨⟨n,l⟩,st⟩:=x
 simp only [PN]
 rw [X7]
 cases h:kY T gl ops (ops.toList.drop i) ⟨n,l⟩ st with
 |none=>rfl
 | some y=>
  obtain⟨fr,st'⟩:=y
  have hn:=(pm T gl ops () (fun _ _=>()) (ops.toList.drop i) n l st).2 fr st' h
  obtain⟨n',l'⟩:=fr
  simp only at hn; subst hn; rfl
def cD (T:TypeId→TI) (gl:Nat→List V) (ops:Array Oper) (i:Nat) (x:Cfg) (s0:St) (R:Ren) (fr':AFr) (st':St):Bool:=PN T gl ops i x false fun fr st=>wkB s0 R fr st fr' st'
def c7 (T:TypeId→TI) (gl:Nat→List V) (ops:Array Oper) (i:Nat) (x:Cfg) (R:Ren) (fr':AFr) (st':St):List (List V)×List (Option Nat)×List V:=PN T gl ops i x ([],[],[]) fun fr st=>wkR R fr st fr' st'
theorem fN (hT:T=ti P) {s0:St} {i:Nat} {x:Cfg} {fr':AFr} {st':St} (R:Ren) (hb:cD T gl ops i x s0 R fr' st'=true) (he:wkL R fr' st'=c7 T gl ops i x R fr' st'):
  wh P gl ops i x (toW s0 fr' st'):=by
 rw [cD,B9]at hb
 rw [c7,B9]at he
 cases hr:kY T gl ops (ops.toList.drop i) x.1 x.2 with
 |none=>rw [hr]at hb; cases hb
 | some y=>
  obtain⟨fr1,st1⟩:=y
  rw [hr]at hb he
  have:=dq (K:=toW s0 fr' st') hT (ops.toList.drop i) [] x.1 x.2 fr1 st1 hr (Wk.gen R hb he)
  rw [List.append_nil]at this; exact this
theorem UP {s0:St} {cs:List Code} {AQ:Exit→AFr→St→Prop} {id:Nat} {ops:Array Oper} {fr:AFr} {st:St} (fr':AFr) (st':St) (hcl:Cl s0 (zB P gl s0 cs AQ)) (h:wh P gl ops 0 (fr,st) (toW s0 fr' st'))
  (h2:zB P gl s0 cs AQ fr' st'):zB P gl s0 (.region id ops false::cs) AQ fr st:=lP fr' st' hcl h h2
end
section
variable {s0:St} {AQ:Exit→AFr→St→Prop} {K:AFr→St→Prop} {fr:AFr} {st:St}
theorem zw {id:Nat} (h:AQ (.exit id) fr st):uf K AQ (.exit id) fr st:=h
theorem zQ (h:AQ .ret fr st):uf K AQ .ret fr st:=h
theorem zO {id:Nat} (h:AQ .ret fr st):bV id (uf K AQ) .ret fr st:=h
theorem zH {Y:Type} {id:Nat} {F:Y→AFr} {S:Y→St} {L:Y→Prop} (h:AQ .ret fr st):gN s0 id F S L AQ .ret fr st:=h
end
attribute [irreducible] wh
end Go.Abs
end
