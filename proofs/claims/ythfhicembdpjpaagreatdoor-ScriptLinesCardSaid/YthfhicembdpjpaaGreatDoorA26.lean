/- Abstract values: a part. No condition beyond each statement's own. -/
import Derived.Test.YthfhicembdpjpaaGreatDoorA25
set_option linter.all false
section
namespace Go.Abs
open Go.RowKit (Below)
def y0 (P:Program) (gl:Nat→List V) (ops:Array Oper) (i:Nat) (x:Cfg) (K:AFr→St→Prop):Prop:=kJ P gl ops (ops.toList.drop i) x.1 x.2 K
def ZN (x:Cfg) (d:Option Tmp) (v:V):Cfg:=match x with|(⟨n,l⟩,st)=>v.fc fun v'=>WY n l d v' fun l'=>(⟨n,l'⟩,st)
theorem Vr (x:Cfg) (d:Option Tmp) (v:V):ZN x d v=(x.1.put d v,x.2):=by
 obtain⟨⟨n,l⟩,st⟩:=x
 simp only [ZN]
 rw [V.fc_eq,dL]
 cases d with
 |none=>rfl
 |some d=>simp only [AFr.put]; split<;>rfl
def bg (x:Cfg) (d:Option Tmp) (v:V) (F:St→St):Cfg:=match x with|(⟨n,l⟩,st)=>v.fc fun v'=>WY n l d v' fun l'=>(F st).fc fun st'=>(⟨n,l'⟩,st')
theorem pw (x:Cfg) (d:Option Tmp) (v:V) (F:St→St):bg x d v F=(x.1.put d v,F x.2):=by
 obtain⟨⟨n,l⟩,st⟩:=x
 simp only [bg]
 rw [V.fc_eq,dL,St.fc_eq]
 cases d with
 |none=>rfl
 |some d=>simp only [AFr.put]; split<;>rfl
section
variable {P:Program} {T:TypeId→TI} {gl:Nat→List V} {ops:Array Oper} {K:AFr→St→Prop}
theorem Q9 (hT:T=ti P) {i:Nat} {x:Cfg} (k:Nat) {q:Option V} {v:V} (hq:q=some v) (hik:Nat.ble i k=true) (he:gy T gl ops i k x=pg q (ve T gl ops i k x).2)
  (h:y0 P gl ops (k+1) (ZN (ve T gl ops i k x) (we ops k) v) K):y0 P gl ops i x K:=by
 rw [qO,YT]at he
 rw [qO,Vr]at h
 exact Dl hT k hq hik he h
theorem DM (hT:T=ti P) {i:Nat} {x:Cfg} (k d:Nat) (b:Bool) (hik:Nat.ble i k=true) (he:Uf T gl ops i k x=some (d, .bool b))
  (ht:b=true→y0 P gl ops k (ZN (ve T gl ops i k x) (some d) (.bool true)) K)
  (hf:b=false→y0 P gl ops k (ZN (ve T gl ops i k x) (some d) (.bool false)) K):y0 P gl ops i x K:=by
 rw [BH]at he
 simp only [qO,Vr]at ht hf
 exact Gl hT k d b hik he ht hf
def goB (T:TypeId→TI) (gl:Nat→List V) (ops:Array Oper) (i k:Nat) (x:Cfg) (R:Ren) (f:FuncId) (args1:List V) (st1:St):Bool:=match JX T gl ops i k x,ve T gl ops i k x with
 |some (f',args),(_,st)=>Nat.ble i k&&Nat.beq f' f&&JH R st1 st args1 args
 |none,_=>false
def goR (T:TypeId→TI) (gl:Nat→List V) (ops:Array Oper) (i k:Nat) (x:Cfg) (R:Ren) (args1:List V) (st1:St):List (List V)×List (Option Nat)×List V:=match JX T gl ops i k x,ve T gl ops i k x with
 |some (_,args),(_,st)=>callR R st1 st args1 args
 |none,_=>([],[],[])
theorem lC (hT:T=ti P) {i:Nat} {x:Cfg} (k:Nat) (R:Ren) {f:FuncId} {args1:List V} {st1 st1':St} {r:V} (hc:wn P gl f args1 st1 (Out r st1'))
  (hb:goB T gl ops i k x R f args1 st1=true) (he:callL R st1 args1=goR T gl ops i k x R args1 st1)
  (h:y0 P gl ops (k+1) (bg (ve T gl ops i k x) (we ops k) (V.ren R r) (fun st=>St.after R st st1')) K):y0 P gl ops i x K:=by
 cases hq:JX T gl ops i k x with
 |none=>simp only [goB,hq]at hb; cases hb
 | some y=>
  obtain⟨f',args⟩:=y
  simp only [goB,goR,hq,iE]at hb he
  obtain⟨⟨h1,h2⟩,h3⟩:=hb
  rw [B9]at hq
  rw [qO,pw]at h
  rw [qO]at h3 he
  refine eK hT k R hc ?_ ?_ h
  ·simp only [G4,Gg,J1,hq,h1,h2,h3,Option.isSome_some,Bool.and_self]
  ·simp only [J1,hq]; exact he
theorem eD (hT:T=ti P) {i:Nat} {x:Cfg} (k t:Nat) {α:Type} (c:α→List V) {l l2 l':List α} {e e2:TypeId} {sz bytes b2:Nat} {tok2:Tok} (h1:jO bytes l l2=some l')
  (hb:(Nat.ble i k&&gC T e sz bytes)=true) (he:((ve T gl ops i k x).2.fams[t]?,gy T gl ops i k x)=(some l.length,vL T (ve T gl ops i k x).2 (.slice e sz bytes) (.slice e2 sz b2) (.sl sz (l.map c) (.fam t l.length)) (.sl sz (l2.map c) tok2)))
  (h:y0 P gl ops (k+1) (bg (ve T gl ops i k x) (we ops k) (.sl sz (l'.map c) (.fam t l'.length)) (fun st=>st.setFam t l'.length)) K):y0 P gl ops i x K:=by
 rw [qO,YT]at he
 rw [qO,pw]at h
 exact PG hT k t c h1 hb he h
theorem PC (hT:T=ti P) {i:Nat} {x:Cfg} (k:Nat) {α:Type} (c:α→List V) {l2 l':List α} {e e2:TypeId} {sz bytes b2:Nat} {tok2:Tok} (h1:jO bytes [] l2=some l')
  (hb:(Nat.ble i k&&gC T e sz bytes)=true) (he:gy T gl ops i k x=vL T (ve T gl ops i k x).2 (.slice e sz bytes) (.slice e2 sz b2) .nilsl (.sl sz (l2.map c) tok2))
  (h:y0 P gl ops (k+1) (bg (ve T gl ops i k x) (we ops k) (.sl sz (l'.map c) (.fam (ve T gl ops i k x).2.fams.length l'.length)) (fun st=>st.pushFam l'.length)) K):y0 P gl ops i x K:=by
 rw [qO,YT]at he
 rw [pw,qO]at h
 exact DB hT k c h1 hb he h
theorem P2 (hT:T=ti P) {i:Nat} {x:Cfg} (k:Nat) (s:List UInt8) (hik:Nat.ble i k=true) (he:gy T gl ops i k x=pg (some (.sl 1 (qB s) .none)) (ve T gl ops i k x).2)
  (h:y0 P gl ops (k+1) (ZN (ve T gl ops i k x) (we ops k) (.sl 1 ((s2b s).map (cI .u8)) .none)) K):y0 P gl ops i x K:=
 Q9 hT k (q:=some (.sl 1 (qB s) .none)) (by rw [YP]) hik he h
theorem fN (hT:T=ti P) {i:Nat} {x:Cfg} (k:Nat) (l:List Int) (hik:Nat.ble i k=true) (he:gy T gl ops i k x=pg (match bB (l.map (cI .u8))with|some b=>some (.str b)|none=>none) (ve T gl ops i k x).2)
  (h:y0 P gl ops (k+1) (ZN (ve T gl ops i k x) (we ops k) (.str (b2s l))) K):y0 P gl ops i x K:=
 Q9 hT k (v:= .str (b2s l)) (by rw [V5]) hik he h
def BD {R:Type} (T:TypeId→TI) (gl:Nat→List V) (ops:Array Oper) (i:Nat) (x:Cfg) (F:R) (K:AFr→St→R):R:=match x with
 |(⟨n,l⟩,st)=>ZI T gl ops F (fun l' st'=>K ⟨n,l'⟩ st') (ops.toList.drop i) n l st
theorem Vs {R:Type} (T:TypeId→TI) (gl:Nat→List V) (ops:Array Oper) (i:Nat) (x:Cfg) (F:R) (K:AFr→St→R):
  BD T gl ops i x F K=(match bW T gl ops (ops.toList.drop i) x.1 x.2 with|some (fr1,st1)=>K fr1 st1|none=>F):=by
 obtain⟨⟨n,l⟩,st⟩:=x
 simp only [BD]
 rw [WG]
 cases h:bW T gl ops (ops.toList.drop i) ⟨n,l⟩ st with
 |none=>rfl
 | some y=>
  obtain⟨fr,st'⟩:=y
  have hn:=(ZB T gl ops () (fun _ _=>()) (ops.toList.drop i) n l st).2 fr st' h
  obtain⟨n',l'⟩:=fr
  simp only at hn; subst hn; rfl
def Dj (T:TypeId→TI) (gl:Nat→List V) (ops:Array Oper) (i:Nat) (x:Cfg) (s0:St) (R:Ren) (fr':AFr) (st':St):Bool:=BD T gl ops i x false fun fr st=>wkB s0 R fr st fr' st'
def DG (T:TypeId→TI) (gl:Nat→List V) (ops:Array Oper) (i:Nat) (x:Cfg) (R:Ren) (fr':AFr) (st':St):List (List V)×List (Option Nat)×List V:=BD T gl ops i x ([],[],[]) fun fr st=>wkR R fr st fr' st'
theorem eT (hT:T=ti P) {s0:St} {i:Nat} {x:Cfg} {fr':AFr} {st':St} (R:Ren) (hb:Dj T gl ops i x s0 R fr' st'=true) (he:wkL R fr' st'=DG T gl ops i x R fr' st'):
  y0 P gl ops i x (toW s0 fr' st'):=by
 rw [Dj,Vs]at hb
 rw [DG,Vs]at he
 cases hr:bW T gl ops (ops.toList.drop i) x.1 x.2 with
 |none=>rw [hr]at hb; cases hb
 | some y=>
  obtain⟨fr1,st1⟩:=y
  rw [hr]at hb he
  have:=gu (K:=toW s0 fr' st') hT (ops.toList.drop i) [] x.1 x.2 fr1 st1 hr (Wk.gen R hb he)
  rw [List.append_nil]at this; exact this
theorem JI {s0:St} {cs:List Code} {AQ:Exit→AFr→St→Prop} {id:Nat} {ops:Array Oper} {fr:AFr} {st:St} (fr':AFr) (st':St) (hcl:Cl s0 (zE P gl s0 cs AQ)) (h:y0 P gl ops 0 (fr,st) (toW s0 fr' st'))
  (h2:zE P gl s0 cs AQ fr' st'):zE P gl s0 (.region id ops false::cs) AQ fr st:=ec fr' st' hcl h h2
end
section
variable {s0:St} {AQ:Exit→AFr→St→Prop} {K:AFr→St→Prop} {fr:AFr} {st:St}
end
attribute [irreducible] y0
end Go.Abs
end
