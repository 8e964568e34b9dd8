/- Layer: an abstract reading of values and worlds, and that the model's operations, regions, loops and calls keep to it. No condition beyond each statement's own. -/
import Derived.Test.YtkabooclnoiclaaGreatDoorA25
set_option linter.unusedVariables false
set_option linter.unusedSimpArgs false
set_option linter.unnecessarySimpa false
section
namespace Go.Abs
open Go.RowKit (Below)
def yo (P:Program) (gl:Nat→List V) (ops:Array Oper) (i:Nat) (x:Cfg) (K:AFr→St→Prop):Prop:=wc P gl ops (ops.toList.drop i) x.1 x.2 K
def py (x:Cfg) (d:Option Tmp) (v:V):Cfg:=match x with|(⟨n,l⟩,st)=>v.fc fun v'=>dQ n l d v' fun l'=>(⟨n,l'⟩,st)
theorem Wg (x:Cfg) (d:Option Tmp) (v:V):py x d v=(x.1.put d v,x.2):=by
 obtain⟨⟨n,l⟩,st⟩:=x
 simp only [py]
 rw [V.fc_eq,vf]
 cases d with
 |none=>rfl
 |some d=>simp only [AFr.put]; split<;>rfl
def wP (x:Cfg) (d:Option Tmp) (v:V) (F:St→St):Cfg:=match x with|(⟨n,l⟩,st)=>v.fc fun v'=>dQ n l d v' fun l'=>(F st).fc fun st'=>(⟨n,l'⟩,st')
theorem gI (x:Cfg) (d:Option Tmp) (v:V) (F:St→St):wP x d v F=(x.1.put d v,F x.2):=by
 obtain⟨⟨n,l⟩,st⟩:=x
 simp only [wP]
 rw [V.fc_eq,vf,St.fc_eq]
 cases d with
 |none=>rfl
 |some d=>simp only [AFr.put]; split<;>rfl
section
variable {P:Program} {T:TypeId→TI} {gl:Nat→List V} {ops:Array Oper} {K:AFr→St→Prop}
theorem Dv (hT:T=ti P) {i:Nat} {x:Cfg} (k:Nat) {q:Option V} {v:V} (hq:q=some v) (hik:Nat.ble i k=true) (he:qg T gl ops i k x=uS q (wg T gl ops i k x).2)
  (h:yo P gl ops (k+1) (py (wg T gl ops i k x) (zY ops k) v) K):yo P gl ops i x K:=by
 rw [uF,Zw]at he
 rw [uF,Wg]at h
 exact PW hT k hq hik he h
def goB (T:TypeId→TI) (gl:Nat→List V) (ops:Array Oper) (i k:Nat) (x:Cfg) (R:Ren) (f:FuncId) (args1:List V) (st1:St):Bool:=match Vp T gl ops i k x,wg T gl ops i k x with
 |some (f',args),(_,st)=>Nat.ble i k&&Nat.beq f' f&&W3 R st1 st args1 args
 |none,_=>false
def goR (T:TypeId→TI) (gl:Nat→List V) (ops:Array Oper) (i k:Nat) (x:Cfg) (R:Ren) (args1:List V) (st1:St):List (List V)×List (Option Nat)×List V:=match Vp T gl ops i k x,wg T gl ops i k x with
 |some (_,args),(_,st)=>callR R st1 st args1 args
 |none,_=>([],[],[])
theorem tT (hT:T=ti P) {i:Nat} {x:Cfg} (k:Nat) (R:Ren) {f:FuncId} {args1:List V} {st1 st1':St} {r:V} (hc:z2 P gl f args1 st1 (Out r st1'))
  (hb:goB T gl ops i k x R f args1 st1=true) (he:callL R st1 args1=goR T gl ops i k x R args1 st1)
  (h:yo P gl ops (k+1) (wP (wg T gl ops i k x) (zY ops k) (V.ren R r) (fun st=>St.after R st st1')) K):yo P gl ops i x K:=by
 cases hq:Vp T gl ops i k x with
 |none=>simp only [goB,hq]at hb; cases hb
 | some y=>
  obtain⟨f',args⟩:=y
  simp only [goB,goR,hq,Bool.and_eq_true]at hb he
  obtain⟨⟨h1,h2⟩,h3⟩:=hb
  rw [GB]at hq
  rw [uF,gI]at h
  rw [uF]at h3 he
  refine rl hT k R hc ?_ ?_ h
  ·simp only [PD,GL,Vs,hq,h1,h2,h3,Option.isSome_some,Bool.and_self]
  ·simp only [Vs,hq]; exact he
theorem o5 (hT:T=ti P) {i:Nat} {x:Cfg} (k t:Nat) {α:Type} (c:α→List V) {l l2 l':List α} {e e2:TypeId} {sz bytes b2:Nat} {tok2:Tok} (h1:wS bytes l l2=some l')
  (hb:(Nat.ble i k&&k7 T e sz bytes)=true) (he:((wg T gl ops i k x).2.fams[t]?,qg T gl ops i k x)=(some l.length,wh T (wg T gl ops i k x).2 (.slice e sz bytes) (.slice e2 sz b2) (.sl sz (l.map c) (.fam t l.length)) (.sl sz (l2.map c) tok2)))
  (h:yo P gl ops (k+1) (wP (wg T gl ops i k x) (zY ops k) (.sl sz (l'.map c) (.fam t l'.length)) (fun st=>st.setFam t l'.length)) K):yo P gl ops i x K:=by
 rw [uF,Zw]at he
 rw [uF,gI]at h
 exact mY hT k t c h1 hb he h
theorem sF (hT:T=ti P) {i:Nat} {x:Cfg} (k:Nat) (l:List Int) (hik:Nat.ble i k=true) (he:qg T gl ops i k x=uS (match xX (l.map (cI .u8))with|some b=>some (.str b)|none=>none) (wg T gl ops i k x).2)
  (h:yo P gl ops (k+1) (py (wg T gl ops i k x) (zY ops k) (.str (b2s l))) K):yo P gl ops i x K:=
 Dv hT k (v:= .str (b2s l)) (by rw [Z0]) hik he h
def Wy {R:Type} (T:TypeId→TI) (gl:Nat→List V) (ops:Array Oper) (i:Nat) (x:Cfg) (F:R) (K:AFr→St→R):R:=match x with
 |(⟨n,l⟩,st)=>uM T gl ops F (fun l' st'=>K ⟨n,l'⟩ st') (ops.toList.drop i) n l st
theorem gx {R:Type} (T:TypeId→TI) (gl:Nat→List V) (ops:Array Oper) (i:Nat) (x:Cfg) (F:R) (K:AFr→St→R):
  Wy T gl ops i x F K=(match wQ T gl ops (ops.toList.drop i) x.1 x.2 with|some (fr1,st1)=>K fr1 st1|none=>F):=by
 obtain⟨⟨n,l⟩,st⟩:=x
 simp only [Wy]
 rw [dc]
 cases h:wQ T gl ops (ops.toList.drop i) ⟨n,l⟩ st with
 |none=>rfl
 | some y=>
  obtain⟨fr,st'⟩:=y
  have hn:=(uD T gl ops () (fun _ _=>()) (ops.toList.drop i) n l st).2 fr st' h
  obtain⟨n',l'⟩:=fr
  simp only at hn; subst hn; rfl
def PT (T:TypeId→TI) (gl:Nat→List V) (ops:Array Oper) (i:Nat) (x:Cfg) (s0:St) (R:Ren) (fr':AFr) (st':St):Bool:=Wy T gl ops i x false fun fr st=>wkB s0 R fr st fr' st'
def cR (T:TypeId→TI) (gl:Nat→List V) (ops:Array Oper) (i:Nat) (x:Cfg) (R:Ren) (fr':AFr) (st':St):List (List V)×List (Option Nat)×List V:=Wy T gl ops i x ([],[],[]) fun fr st=>wkR R fr st fr' st'
theorem rD (hT:T=ti P) {s0:St} {i:Nat} {x:Cfg} {fr':AFr} {st':St} (R:Ren) (hb:PT T gl ops i x s0 R fr' st'=true) (he:wkL R fr' st'=cR T gl ops i x R fr' st'):
  yo P gl ops i x (toW s0 fr' st'):=by
 rw [PT,gx]at hb
 rw [cR,gx]at he
 cases hr:wQ T gl ops (ops.toList.drop i) x.1 x.2 with
 |none=>rw [hr]at hb; cases hb
 | some y=>
  obtain⟨fr1,st1⟩:=y
  rw [hr]at hb he
  have:=jQ (K:=toW s0 fr' st') hT (ops.toList.drop i) [] x.1 x.2 fr1 st1 hr (Wk.gen R hb he)
  rw [List.append_nil]at this; exact this
theorem fa {s0:St} {cs:List Code} {AQ:Exit→AFr→St→Prop} {id:Nat} {ops:Array Oper} {fr:AFr} {st:St} (fr':AFr) (st':St) (hcl:Cl s0 (zd P gl s0 cs AQ)) (h:yo P gl ops 0 (fr,st) (toW s0 fr' st'))
  (h2:zd P gl s0 cs AQ fr' st'):zd P gl s0 (.region id ops false::cs) AQ fr st:=oO fr' st' hcl h h2
end
section
variable {s0:St} {AQ:Exit→AFr→St→Prop} {K:AFr→St→Prop} {fr:AFr} {st:St}
end
attribute [irreducible] yo
end Go.Abs
end
