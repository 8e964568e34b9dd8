/- Layer: an abstract reading of values and worlds, and that the model's operations, regions, loops and calls keep to it. No condition beyond each statement's own. -/
import Derived.Test.YtbggpcnbbhjiaaaGreatDoorA27
set_option linter.unusedVariables false
set_option linter.unusedSimpArgs false
set_option linter.unnecessarySimpa false
section
namespace Go.Abs
open Go.RowKit (Below)
def xS (P:Program) (gl:Nat→List V) (ops:Array Oper) (i:Nat) (x:Cfg) (K:AFr→St→Prop):Prop:=dw P gl ops (ops.toList.drop i) x.1 x.2 K
def XH (x:Cfg) (d:Option Tmp) (v:V):Cfg:=match x with|(⟨n,l⟩,st)=>v.fc fun v'=>QR n l d v' fun l'=>(⟨n,l'⟩,st)
theorem Ky (x:Cfg) (d:Option Tmp) (v:V):XH x d v=(x.1.put d v,x.2):=by
 obtain⟨⟨n,l⟩,st⟩:=x
 simp only [XH]
 rw [V.fc_eq,Z5]
 cases d with
 |none=>rfl
 |some d=>simp only [AFr.put]; split<;>rfl
def gj (x:Cfg) (d:Option Tmp) (v:V) (F:St→St):Cfg:=match x with|(⟨n,l⟩,st)=>v.fc fun v'=>QR n l d v' fun l'=>(F st).fc fun st'=>(⟨n,l'⟩,st')
theorem Vd (x:Cfg) (d:Option Tmp) (v:V) (F:St→St):gj x d v F=(x.1.put d v,F x.2):=by
 obtain⟨⟨n,l⟩,st⟩:=x
 simp only [gj]
 rw [V.fc_eq,Z5,St.fc_eq]
 cases d with
 |none=>rfl
 |some d=>simp only [AFr.put]; split<;>rfl
section
variable {P:Program} {T:TypeId→TI} {gl:Nat→List V} {ops:Array Oper} {K:AFr→St→Prop}
theorem fq (hT:T=ti P) {i:Nat} {x:Cfg} (k:Nat) {q:Option V} {v:V} (hq:q=some v) (hik:Nat.ble i k=true) (he:Xa T gl ops i k x=Zw q (kl T gl ops i k x).2)
  (h:xS P gl ops (k+1) (XH (kl T gl ops i k x) (xZ ops k) v) K):xS P gl ops i x K:=by
 rw [Z8,KU]at he
 rw [Z8,Ky]at h
 exact tv hT k hq hik he h
theorem t7 (hT:T=ti P) {i:Nat} {x:Cfg} (k d:Nat) (b:Bool) (hik:Nat.ble i k=true) (he:BI T gl ops i k x=some (d, .bool b))
  (ht:b=true→xS P gl ops k (XH (kl T gl ops i k x) (some d) (.bool true)) K)
  (hf:b=false→xS P gl ops k (XH (kl T gl ops i k x) (some d) (.bool false)) K):xS P gl ops i x K:=by
 rw [ow]at he
 simp only [Z8,Ky]at ht hf
 exact rG hT k d b hik he ht hf
def goB (T:TypeId→TI) (gl:Nat→List V) (ops:Array Oper) (i k:Nat) (x:Cfg) (R:Ren) (f:FuncId) (args1:List V) (st1:St):Bool:=match PC T gl ops i k x,kl T gl ops i k x with
 |some (f',args),(_,st)=>Nat.ble i k&&Nat.beq f' f&&D7 R st1 st args1 args
 |none,_=>false
def goR (T:TypeId→TI) (gl:Nat→List V) (ops:Array Oper) (i k:Nat) (x:Cfg) (R:Ren) (args1:List V) (st1:St):List (List V)×List (Option Nat)×List V:=match PC T gl ops i k x,kl T gl ops i k x with
 |some (_,args),(_,st)=>rQ R st1 st args1 args
 |none,_=>([],[],[])
theorem zex (hT:T=ti P) {i:Nat} {x:Cfg} (k:Nat) (R:Ren) {f:FuncId} {args1:List V} {st1 st1':St} {r:V} (hc:uR P gl f args1 st1 (Out r st1'))
  (hb:goB T gl ops i k x R f args1 st1=true) (he:Kd R st1 args1=goR T gl ops i k x R args1 st1)
  (h:xS P gl ops (k+1) (gj (kl T gl ops i k x) (xZ ops k) (V.ren R r) (fun st=>St.after R st st1')) K):xS P gl ops i x K:=by
 cases hq:PC T gl ops i k x with
 |none=>simp only [goB,hq]at hb; cases hb
 | some y=>
  obtain⟨f',args⟩:=y
  simp only [goB,goR,hq,Bool.and_eq_true]at hb he
  obtain⟨⟨h1,h2⟩,h3⟩:=hb
  rw [ro]at hq
  rw [Z8,Vd]at h
  rw [Z8]at h3 he
  refine zcP hT k R hc ?_ ?_ h
  ·simp only [s6,rB,PF,hq,h1,h2,h3,Option.isSome_some,Bool.and_self]
  ·simp only [PF,hq]; exact he
theorem zcK (hT:T=ti P) {i:Nat} {x:Cfg} (k t:Nat) {α:Type} (c:α→List V) {l l2 l':List α} {e e2:TypeId} {sz bytes b2:Nat} {tok2:Tok} (h1:gL bytes l l2=some l')
  (hb:(Nat.ble i k&&Yj T e sz bytes)=true) (he:((kl T gl ops i k x).2.fams[t]?,Xa T gl ops i k x)=(some l.length,qA T (kl T gl ops i k x).2 (.slice e sz bytes) (.slice e2 sz b2) (.sl sz (l.map c) (.fam t l.length)) (.sl sz (l2.map c) tok2)))
  (h:xS P gl ops (k+1) (gj (kl T gl ops i k x) (xZ ops k) (.sl sz (l'.map c) (.fam t l'.length)) (fun st=>st.setFam t l'.length)) K):xS P gl ops i x K:=by
 rw [Z8,KU]at he
 rw [Z8,Vd]at h
 exact zbl hT k t c h1 hb he h
theorem zbM (hT:T=ti P) {i:Nat} {x:Cfg} (k:Nat) (s:List UInt8) (hik:Nat.ble i k=true) (he:Xa T gl ops i k x=Zw (some (.sl 1 (bR s) .none)) (kl T gl ops i k x).2)
  (h:xS P gl ops (k+1) (XH (kl T gl ops i k x) (xZ ops k) (.sl 1 ((s2b s).map (cI .u8)) .none)) K):xS P gl ops i x K:=
 fq hT k (q:=some (.sl 1 (bR s) .none)) (by rw [D1]) hik he h
theorem zdS (hT:T=ti P) {i:Nat} {x:Cfg} (k:Nat) (l:List Int) (hik:Nat.ble i k=true) (he:Xa T gl ops i k x=Zw (match dT (l.map (cI .u8))with|some b=>some (.str b)|none=>none) (kl T gl ops i k x).2)
  (h:xS P gl ops (k+1) (XH (kl T gl ops i k x) (xZ ops k) (.str (b2s l))) K):xS P gl ops i x K:=
 fq hT k (v:= .str (b2s l)) (by rw [Bv]) hik he h
def ot {R:Type} (T:TypeId→TI) (gl:Nat→List V) (ops:Array Oper) (i:Nat) (x:Cfg) (F:R) (K:AFr→St→R):R:=match x with
 |(⟨n,l⟩,st)=>Wn T gl ops F (fun l' st'=>K ⟨n,l'⟩ st') (ops.toList.drop i) n l st
theorem KA {R:Type} (T:TypeId→TI) (gl:Nat→List V) (ops:Array Oper) (i:Nat) (x:Cfg) (F:R) (K:AFr→St→R):
  ot T gl ops i x F K=(match pC T gl ops (ops.toList.drop i) x.1 x.2 with|some (fr1,st1)=>K fr1 st1|none=>F):=by
 obtain⟨⟨n,l⟩,st⟩:=x
 simp only [ot]
 rw [Qx]
 cases h:pC T gl ops (ops.toList.drop i) ⟨n,l⟩ st with
 |none=>rfl
 | some y=>
  obtain⟨fr,st'⟩:=y
  have hn:=(XY T gl ops () (fun _ _=>()) (ops.toList.drop i) n l st).2 fr st' h
  obtain⟨n',l'⟩:=fr
  simp only at hn; subst hn; rfl
def tr (T:TypeId→TI) (gl:Nat→List V) (ops:Array Oper) (i:Nat) (x:Cfg) (s0:St) (R:Ren) (fr':AFr) (st':St):Bool:=ot T gl ops i x false fun fr st=>wkB s0 R fr st fr' st'
def tV (T:TypeId→TI) (gl:Nat→List V) (ops:Array Oper) (i:Nat) (x:Cfg) (R:Ren) (fr':AFr) (st':St):List (List V)×List (Option Nat)×List V:=ot T gl ops i x ([],[],[]) fun fr st=>wkR R fr st fr' st'
theorem zc0 (hT:T=ti P) {s0:St} {i:Nat} {x:Cfg} {fr':AFr} {st':St} (R:Ren) (hb:tr T gl ops i x s0 R fr' st'=true) (he:wkL R fr' st'=tV T gl ops i x R fr' st'):
  xS P gl ops i x (toW s0 fr' st'):=by
 rw [tr,KA]at hb
 rw [tV,KA]at he
 cases hr:pC T gl ops (ops.toList.drop i) x.1 x.2 with
 |none=>rw [hr]at hb; cases hb
 | some y=>
  obtain⟨fr1,st1⟩:=y
  rw [hr]at hb he
  have:=ZX (K:=toW s0 fr' st') hT (ops.toList.drop i) [] x.1 x.2 fr1 st1 hr (Wk.gen R hb he)
  rw [List.append_nil]at this; exact this
theorem lG {s0:St} {cs:List Code} {AQ:Exit→AFr→St→Prop} {id:Nat} {ops:Array Oper} {fr:AFr} {st:St} (fr':AFr) (st':St) (hcl:Cl s0 (zt P gl s0 cs AQ)) (h:xS P gl ops 0 (fr,st) (toW s0 fr' st'))
  (h2:zt P gl s0 cs AQ fr' st'):zt P gl s0 (.region id ops false::cs) AQ fr st:=zcq fr' st' hcl h h2
end
section
variable {s0:St} {AQ:Exit→AFr→St→Prop} {K:AFr→St→Prop} {fr:AFr} {st:St}
end
attribute [irreducible] xS
end Go.Abs
end
