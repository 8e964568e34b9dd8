/- Abstract values: a part. No condition beyond each statement's own. -/
import Derived.Test.YtkabooclnoiclaaGreatDoorA25
set_option linter.all false
section
namespace Go.Abs
open Go.RowKit (Below)
def ym (P:Program) (gl:Nat→List V) (ops:Array Oper) (i:Nat) (x:Cfg) (K:AFr→St→Prop):Prop:=wi P gl ops (ops.toList.drop i) x.1 x.2 K
def pT (x:Cfg) (d:Option Tmp) (v:V):Cfg:=match x with|(⟨n,l⟩,st)=>v.fc fun v'=>pg n l d v' fun l'=>(⟨n,l'⟩,st)
theorem WC (x:Cfg) (d:Option Tmp) (v:V):pT x d v=(x.1.put d v,x.2):=by
 obtain⟨⟨n,l⟩,st⟩:=x
 simp only [pT]
 rw [V.fc_eq,vu]
 cases d with
 |none=>rfl
 |some d=>simp only [AFr.put]; split<;>rfl
def wW (x:Cfg) (d:Option Tmp) (v:V) (F:St→St):Cfg:=match x with|(⟨n,l⟩,st)=>v.fc fun v'=>pg n l d v' fun l'=>(F st).fc fun st'=>(⟨n,l'⟩,st')
theorem gS (x:Cfg) (d:Option Tmp) (v:V) (F:St→St):wW x d v F=(x.1.put d v,F x.2):=by
 obtain⟨⟨n,l⟩,st⟩:=x
 simp only [wW]
 rw [V.fc_eq,vu,St.fc_eq]
 cases d with
 |none=>rfl
 |some d=>simp only [AFr.put]; split<;>rfl
section
variable {P:Program} {T:TypeId→TI} {gl:Nat→List V} {ops:Array Oper} {K:AFr→St→Prop}
theorem PK (hT:T=ti P) {i:Nat} {x:Cfg} (k:Nat) {q:Option V} {v:V} (hq:q=some v) (hik:Nat.ble i k=true) (he:qz T gl ops i k x=u9 q (wm T gl ops i k x).2)
  (h:ym P gl ops (k+1) (pT (wm T gl ops i k x) (z2 ops k) v) K):ym P gl ops i x K:=by
 rw [u1,ZP]at he
 rw [u1,WC]at h
 exact fB hT k hq hik he h
def goB (T:TypeId→TI) (gl:Nat→List V) (ops:Array Oper) (i k:Nat) (x:Cfg) (R:Ren) (f:FuncId) (args1:List V) (st1:St):Bool:=match VY T gl ops i k x,wm T gl ops i k x with
 |some (f',args),(_,st)=>Nat.ble i k&&Nat.beq f' f&&Vx R st1 st args1 args
 |none,_=>false
def goR (T:TypeId→TI) (gl:Nat→List V) (ops:Array Oper) (i k:Nat) (x:Cfg) (R:Ren) (args1:List V) (st1:St):List (List V)×List (Option Nat)×List V:=match VY T gl ops i k x,wm T gl ops i k x with
 |some (_,args),(_,st)=>callR R st1 st args1 args
 |none,_=>([],[],[])
theorem zaI (hT:T=ti P) {i:Nat} {x:Cfg} (k:Nat) (R:Ren) {f:FuncId} {args1:List V} {st1 st1':St} {r:V} (hc:z6 P gl f args1 st1 (Out r st1'))
  (hb:goB T gl ops i k x R f args1 st1=true) (he:callL R st1 args1=goR T gl ops i k x R args1 st1)
  (h:ym P gl ops (k+1) (wW (wm T gl ops i k x) (z2 ops k) (V.ren R r) (fun st=>St.after R st st1')) K):ym P gl ops i x K:=by
 cases hq:VY T gl ops i k x with
 |none=>simp only [goB,hq]at hb; cases hb
 | some y=>
  obtain⟨f',args⟩:=y
  simp only [goB,goR,hq,iF]at hb he
  obtain⟨⟨h1,h2⟩,h3⟩:=hb
  rw [DK]at hq
  rw [u1,gS]at h
  rw [u1]at h3 he
  refine sR hT k R hc ?_ ?_ h
  ·simp only [eI,DW,V1,hq,h1,h2,h3,Option.isSome_some,Bool.and_self]
  ·simp only [V1,hq]; exact he
theorem sE (hT:T=ti P) {i:Nat} {x:Cfg} (k t:Nat) {α:Type} (c:α→List V) {l l2 l':List α} {e e2:TypeId} {sz bytes b2:Nat} {tok2:Tok} (h1:w4 bytes l l2=some l')
  (hb:(Nat.ble i k&&bm T e sz bytes)=true) (he:((wm T gl ops i k x).2.fams[t]?,qz T gl ops i k x)=(some l.length,wn T (wm T gl ops i k x).2 (.slice e sz bytes) (.slice e2 sz b2) (.sl sz (l.map c) (.fam t l.length)) (.sl sz (l2.map c) tok2)))
  (h:ym P gl ops (k+1) (wW (wm T gl ops i k x) (z2 ops k) (.sl sz (l'.map c) (.fam t l'.length)) (fun st=>st.setFam t l'.length)) K):ym P gl ops i x K:=by
 rw [u1,ZP]at he
 rw [u1,gS]at h
 exact oN hT k t c h1 hb he h
theorem tS (hT:T=ti P) {i:Nat} {x:Cfg} (k:Nat) (l:List Int) (hik:Nat.ble i k=true) (he:qz T gl ops i k x=u9 (match we (l.map (cI .u8))with|some b=>some (.str b)|none=>none) (wm T gl ops i k x).2)
  (h:ym P gl ops (k+1) (pT (wm T gl ops i k x) (z2 ops k) (.str (b2s l))) K):ym P gl ops i x K:=
 PK hT k (v:= .str (b2s l)) (by rw [Yg]) hik he h
def W0 {R:Type} (T:TypeId→TI) (gl:Nat→List V) (ops:Array Oper) (i:Nat) (x:Cfg) (F:R) (K:AFr→St→R):R:=match x with
 |(⟨n,l⟩,st)=>u4 T gl ops F (fun l' st'=>K ⟨n,l'⟩ st') (ops.toList.drop i) n l st
theorem gH {R:Type} (T:TypeId→TI) (gl:Nat→List V) (ops:Array Oper) (i:Nat) (x:Cfg) (F:R) (K:AFr→St→R):
  W0 T gl ops i x F K=(match wX T gl ops (ops.toList.drop i) x.1 x.2 with|some (fr1,st1)=>K fr1 st1|none=>F):=by
 obtain⟨⟨n,l⟩,st⟩:=x
 simp only [W0]
 rw [dB]
 cases h:wX T gl ops (ops.toList.drop i) ⟨n,l⟩ st with
 |none=>rfl
 | some y=>
  obtain⟨fr,st'⟩:=y
  have hn:=(u0 T gl ops () (fun _ _=>()) (ops.toList.drop i) n l st).2 fr st' h
  obtain⟨n',l'⟩:=fr
  simp only at hn; subst hn; rfl
def fu (T:TypeId→TI) (gl:Nat→List V) (ops:Array Oper) (i:Nat) (x:Cfg) (s0:St) (R:Ren) (fr':AFr) (st':St):Bool:=W0 T gl ops i x false fun fr st=>wkB s0 R fr st fr' st'
def lB (T:TypeId→TI) (gl:Nat→List V) (ops:Array Oper) (i:Nat) (x:Cfg) (R:Ren) (fr':AFr) (st':St):List (List V)×List (Option Nat)×List V:=W0 T gl ops i x ([],[],[]) fun fr st=>wkR R fr st fr' st'
theorem sX (hT:T=ti P) {s0:St} {i:Nat} {x:Cfg} {fr':AFr} {st':St} (R:Ren) (hb:fu T gl ops i x s0 R fr' st'=true) (he:wkL R fr' st'=lB T gl ops i x R fr' st'):
  ym P gl ops i x (toW s0 fr' st'):=by
 rw [fu,gH]at hb
 rw [lB,gH]at he
 cases hr:wX T gl ops (ops.toList.drop i) x.1 x.2 with
 |none=>rw [hr]at hb; cases hb
 | some y=>
  obtain⟨fr1,st1⟩:=y
  rw [hr]at hb he
  have:=j0 (K:=toW s0 fr' st') hT (ops.toList.drop i) [] x.1 x.2 fr1 st1 hr (Wk.gen R hb he)
  rw [List.append_nil]at this; exact this
theorem mr {s0:St} {cs:List Code} {AQ:Exit→AFr→St→Prop} {id:Nat} {ops:Array Oper} {fr:AFr} {st:St} (fr':AFr) (st':St) (hcl:Cl s0 (ze P gl s0 cs AQ)) (h:ym P gl ops 0 (fr,st) (toW s0 fr' st'))
  (h2:ze P gl s0 cs AQ fr' st'):ze P gl s0 (.region id ops false::cs) AQ fr st:=so fr' st' hcl h h2
end
section
variable {s0:St} {AQ:Exit→AFr→St→Prop} {K:AFr→St→Prop} {fr:AFr} {st:St}
end
attribute [irreducible] ym
end Go.Abs
end
