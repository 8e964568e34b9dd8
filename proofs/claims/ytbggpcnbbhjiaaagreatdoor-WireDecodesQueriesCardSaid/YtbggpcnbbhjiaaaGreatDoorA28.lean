/- Layer: an abstract reading of values and worlds, and that the model's operations, regions, loops and calls keep to it. No condition beyond each statement's own. -/
import Derived.Test.YtbggpcnbbhjiaaaGreatDoorA27
set_option linter.unusedVariables false
set_option linter.unusedSimpArgs false
set_option linter.unnecessarySimpa false
section
namespace Go.Abs
open Go.RowKit (Below)
def xu (P:Program) (gl:Nat→List V) (ops:Array Oper) (i:Nat) (x:Cfg) (K:AFr→St→Prop):Prop:=dG P gl ops (ops.toList.drop i) x.1 x.2 K
def Wz (x:Cfg) (d:Option Tmp) (v:V):Cfg:=match x with|(⟨n,l⟩,st)=>v.fc fun v'=>KN n l d v' fun l'=>(⟨n,l'⟩,st)
theorem BE (x:Cfg) (d:Option Tmp) (v:V):Wz x d v=(x.1.put d v,x.2):=by
 obtain⟨⟨n,l⟩,st⟩:=x
 simp only [Wz]
 rw [V.fc_eq,YC]
 cases d with
 |none=>rfl
 |some d=>simp only [AFr.put]; split<;>rfl
def gn (x:Cfg) (d:Option Tmp) (v:V) (F:St→St):Cfg:=match x with|(⟨n,l⟩,st)=>v.fc fun v'=>KN n l d v' fun l'=>(F st).fc fun st'=>(⟨n,l'⟩,st')
theorem WU (x:Cfg) (d:Option Tmp) (v:V) (F:St→St):gn x d v F=(x.1.put d v,F x.2):=by
 obtain⟨⟨n,l⟩,st⟩:=x
 simp only [gn]
 rw [V.fc_eq,YC,St.fc_eq]
 cases d with
 |none=>rfl
 |some d=>simp only [AFr.put]; split<;>rfl
section
variable {P:Program} {T:TypeId→TI} {gl:Nat→List V} {ops:Array Oper} {K:AFr→St→Prop}
theorem lT (hT:T=ti P) {i:Nat} {x:Cfg} (k:Nat) {q:Option V} {v:V} (hq:q=some v) (hik:Nat.ble i k=true) (he:YH T gl ops i k x=Z1 q (qy T gl ops i k x).2)
  (h:xu P gl ops (k+1) (Wz (qy T gl ops i k x) (xC ops k) v) K):xu P gl ops i x K:=by
 rw [Zo,QE]at he
 rw [Zo,BE]at h
 exact za4 hT k hq hik he h
theorem zbA (hT:T=ti P) {i:Nat} {x:Cfg} (k d:Nat) (b:Bool) (hik:Nat.ble i k=true) (he:GU T gl ops i k x=some (d, .bool b))
  (ht:b=true→xu P gl ops k (Wz (qy T gl ops i k x) (some d) (.bool true)) K)
  (hf:b=false→xu P gl ops k (Wz (qy T gl ops i k x) (some d) (.bool false)) K):xu P gl ops i x K:=by
 rw [rX]at he
 simp only [Zo,BE]at ht hf
 exact tg hT k d b hik he ht hf
def goB (T:TypeId→TI) (gl:Nat→List V) (ops:Array Oper) (i k:Nat) (x:Cfg) (R:Ren) (f:FuncId) (args1:List V) (st1:St):Bool:=match ea T gl ops i k x,qy T gl ops i k x with
 |some (f',args),(_,st)=>Nat.ble i k&&Nat.beq f' f&&co R st1 st args1 args
 |none,_=>false
def goR (T:TypeId→TI) (gl:Nat→List V) (ops:Array Oper) (i k:Nat) (x:Cfg) (R:Ren) (args1:List V) (st1:St):List (List V)×List (Option Nat)×List V:=match ea T gl ops i k x,qy T gl ops i k x with
 |some (_,args),(_,st)=>tt R st1 st args1 args
 |none,_=>([],[],[])
theorem zf6 (hT:T=ti P) {i:Nat} {x:Cfg} (k:Nat) (R:Ren) {f:FuncId} {args1:List V} {st1 st1':St} {r:V} (hc:uQ P gl f args1 st1 (Out r st1'))
  (hb:goB T gl ops i k x R f args1 st1=true) (he:Bc R st1 args1=goR T gl ops i k x R args1 st1)
  (h:xu P gl ops (k+1) (gn (qy T gl ops i k x) (xC ops k) (V.ren R r) (fun st=>St.after R st st1')) K):xu P gl ops i x K:=by
 cases hq:ea T gl ops i k x with
 |none=>simp only [goB,hq]at hb; cases hb
 | some y=>
  obtain⟨f',args⟩:=y
  simp only [goB,goR,hq,Bool.and_eq_true]at hb he
  obtain⟨⟨h1,h2⟩,h3⟩:=hb
  rw [sV]at hq
  rw [Zo,WU]at h
  rw [Zo]at h3 he
  refine zep hT k R hc ?_ ?_ h
  ·simp only [zaK,tb,en,hq,h1,h2,h3,Option.isSome_some,Bool.and_self]
  ·simp only [en,hq]; exact he
theorem zek (hT:T=ti P) {i:Nat} {x:Cfg} (k t:Nat) {α:Type} (c:α→List V) {l l2 l':List α} {e e2:TypeId} {sz bytes b2:Nat} {tok2:Tok} (h1:jR bytes l l2=some l')
  (hb:(Nat.ble i k&&pG T e sz bytes)=true) (he:((qy T gl ops i k x).2.fams[t]?,YH T gl ops i k x)=(some l.length,ja T (qy T gl ops i k x).2 (.slice e sz bytes) (.slice e2 sz b2) (.sl sz (l.map c) (.fam t l.length)) (.sl sz (l2.map c) tok2)))
  (h:xu P gl ops (k+1) (gn (qy T gl ops i k x) (xC ops k) (.sl sz (l'.map c) (.fam t l'.length)) (fun st=>st.setFam t l'.length)) K):xu P gl ops i x K:=by
 rw [Zo,QE]at he
 rw [Zo,WU]at h
 exact zcV hT k t c h1 hb he h
theorem zcQ (hT:T=ti P) {i:Nat} {x:Cfg} (k:Nat) {α:Type} (c:α→List V) {l2 l':List α} {e e2:TypeId} {sz bytes b2:Nat} {tok2:Tok} (h1:jR bytes [] l2=some l')
  (hb:(Nat.ble i k&&pG T e sz bytes)=true) (he:YH T gl ops i k x=ja T (qy T gl ops i k x).2 (.slice e sz bytes) (.slice e2 sz b2) .nilsl (.sl sz (l2.map c) tok2))
  (h:xu P gl ops (k+1) (gn (qy T gl ops i k x) (xC ops k) (.sl sz (l'.map c) (.fam (qy T gl ops i k x).2.fams.length l'.length)) (fun st=>st.pushFam l'.length)) K):xu P gl ops i x K:=by
 rw [Zo,QE]at he
 rw [WU,Zo]at h
 exact zbp hT k c h1 hb he h
theorem zdp (hT:T=ti P) {i:Nat} {x:Cfg} (k:Nat) (s:List UInt8) (hik:Nat.ble i k=true) (he:YH T gl ops i k x=Z1 (some (.sl 1 (gk s) .none)) (qy T gl ops i k x).2)
  (h:xu P gl ops (k+1) (Wz (qy T gl ops i k x) (xC ops k) (.sl 1 ((s2b s).map (cI .u8)) .none)) K):xu P gl ops i x K:=
 lT hT k (q:=some (.sl 1 (gk s) .none)) (by rw [P9]) hik he h
theorem zfr (hT:T=ti P) {i:Nat} {x:Cfg} (k:Nat) (l:List Int) (hik:Nat.ble i k=true) (he:YH T gl ops i k x=Z1 (match pz (l.map (cI .u8))with|some b=>some (.str b)|none=>none) (qy T gl ops i k x).2)
  (h:xu P gl ops (k+1) (Wz (qy T gl ops i k x) (xC ops k) (.str (b2s l))) K):xu P gl ops i x K:=
 lT hT k (v:= .str (b2s l)) (by rw [GH]) hik he h
def rV {R:Type} (T:TypeId→TI) (gl:Nat→List V) (ops:Array Oper) (i:Nat) (x:Cfg) (F:R) (K:AFr→St→R):R:=match x with
 |(⟨n,l⟩,st)=>W9 T gl ops F (fun l' st'=>K ⟨n,l'⟩ st') (ops.toList.drop i) n l st
theorem BH {R:Type} (T:TypeId→TI) (gl:Nat→List V) (ops:Array Oper) (i:Nat) (x:Cfg) (F:R) (K:AFr→St→R):
  rV T gl ops i x F K=(match Ze T gl ops (ops.toList.drop i) x.1 x.2 with|some (fr1,st1)=>K fr1 st1|none=>F):=by
 obtain⟨⟨n,l⟩,st⟩:=x
 simp only [rV]
 rw [Kt]
 cases h:Ze T gl ops (ops.toList.drop i) ⟨n,l⟩ st with
 |none=>rfl
 | some y=>
  obtain⟨fr,st'⟩:=y
  have hn:=(WT T gl ops () (fun _ _=>()) (ops.toList.drop i) n l st).2 fr st' h
  obtain⟨n',l'⟩:=fr
  simp only at hn; subst hn; rfl
def za1 (T:TypeId→TI) (gl:Nat→List V) (ops:Array Oper) (i:Nat) (x:Cfg) (s0:St) (R:Ren) (fr':AFr) (st':St):Bool:=rV T gl ops i x false fun fr st=>wkB s0 R fr st fr' st'
def zbu (T:TypeId→TI) (gl:Nat→List V) (ops:Array Oper) (i:Nat) (x:Cfg) (R:Ren) (fr':AFr) (st':St):List (List V)×List (Option Nat)×List V:=rV T gl ops i x ([],[],[]) fun fr st=>wkR R fr st fr' st'
theorem zez (hT:T=ti P) {s0:St} {i:Nat} {x:Cfg} {fr':AFr} {st':St} (R:Ren) (hb:za1 T gl ops i x s0 R fr' st'=true) (he:wkL R fr' st'=zbu T gl ops i x R fr' st'):
  xu P gl ops i x (toW s0 fr' st'):=by
 rw [za1,BH]at hb
 rw [zbu,BH]at he
 cases hr:Ze T gl ops (ops.toList.drop i) x.1 x.2 with
 |none=>rw [hr]at hb; cases hb
 | some y=>
  obtain⟨fr1,st1⟩:=y
  rw [hr]at hb he
  have:=Yu (K:=toW s0 fr' st') hT (ops.toList.drop i) [] x.1 x.2 fr1 st1 hr (Wk.gen R hb he)
  rw [List.append_nil]at this; exact this
theorem nd {s0:St} {cs:List Code} {AQ:Exit→AFr→St→Prop} {id:Nat} {ops:Array Oper} {fr:AFr} {st:St} (fr':AFr) (st':St) (hcl:Cl s0 (zw P gl s0 cs AQ)) (h:xu P gl ops 0 (fr,st) (toW s0 fr' st'))
  (h2:zw P gl s0 cs AQ fr' st'):zw P gl s0 (.region id ops false::cs) AQ fr st:=zd1 fr' st' hcl h h2
end
section
variable {s0:St} {AQ:Exit→AFr→St→Prop} {K:AFr→St→Prop} {fr:AFr} {st:St}
end
attribute [irreducible] xu
end Go.Abs
end
