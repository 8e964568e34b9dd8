/- Abstract values. No condition. -/
import Derived.Test.YtkabooclnoiclaaGreatDoorA25
set_option linter.all false
section
namespace Go.Abs
open Go.RowKit (Below)
def yy (P:Program) (gl:Nat->List V) (ops:Array Oper) (i:Nat) (x:Cfg) (K:AFr->St->Prop):Prop:=u9 P gl ops (ops.toList.drop i) x.1 x.2 K
def kY (x:Cfg) (d:Option Tmp) (v:V):Cfg:=match x with|(⟨n,l⟩,st)=>v.fc fun b=>Wj n l d b fun a=>(⟨n,a⟩,st)
def Xb (x:Cfg) (d:Option Tmp) (v:V):kY x d v=(x.1.put d v,x.2):=by
 obtain⟨⟨n,l⟩,st⟩:=x;simp only [kY];rw [V.fc_eq,qG]
 cases d with
 |none=>rfl
 |some d=>simp only [AFr.put]; split<;>rfl
def uL (x:Cfg) (d:Option Tmp) (v:V) (F:St->St):Cfg:=match x with|(⟨n,l⟩,st)=>v.fc fun c=>Wj n l d c fun b=>(F st).fc fun a=>(⟨n,b⟩,a)
def ZP (x:Cfg) (d:Option Tmp) (v:V) (F:St->St):uL x d v F=(x.1.put d v,F x.2):=by
 obtain⟨⟨n,l⟩,st⟩:=x;simp only [uL];rw [V.fc_eq,qG,St.fc_eq]
 cases d with
 |none=>rfl
 |some d=>simp only [AFr.put]; split<;>rfl
section
variable {P:Program} {T:TypeId->TI} {gl:Nat->List V} {ops:Array Oper} {K:AFr->St->Prop}
def DP (c:T=ti P) {i:Nat} {x:Cfg} (k:Nat) {q:Option V} {v:V} (e:q=some v) (a:Nat.ble i k=true) (b:gP T gl ops i k x=kH q (uc T gl ops i k x).2)
  (h:yy P gl ops (k+1) (kY (uc T gl ops i k x) (yw ops k) v) K):yy P gl ops i x K:=by
 rw [bc,VW]at b;rw [bc,Xb]at h;exact sn c k e a b h
def tl (g:T=ti P) {i:Nat} {x:Cfg} (k d:Nat) (b:Bool) (a:Nat.ble i k=true) (c:UI T gl ops i k x=some (d, .bool b))
  (f:b=true->yy P gl ops k (kY (uc T gl ops i k x) (some d) (.bool true)) K)
  (e:b=false->yy P gl ops k (kY (uc T gl ops i k x) (some d) (.bool false)) K):yy P gl ops i x K:=by
 rw [lc]at c;simp only [bc,Xb]at f e;exact nd g k d b a c f e
def goB (T:TypeId->TI) (gl:Nat->List V) (ops:Array Oper) (i k:Nat) (x:Cfg) (R:Ren) (f:FuncId) (args1:List V) (st1:St):Bool:=match Bz T gl ops i k x,uc T gl ops i k x with
 |some (b,a),(_,st)=>Nat.ble i k&&Nat.beq b f&&K0 R st1 st args1 a
 |none,_=>false
def goR (T:TypeId->TI) (gl:Nat->List V) (ops:Array Oper) (i k:Nat) (x:Cfg) (R:Ren) (args1:List V) (st1:St):List (List V)×List (Option Nat)×List V:=match Bz T gl ops i k x,uc T gl ops i k x with
 |some (_,a),(_,st)=>nw R st1 st args1 a
 |none,_=>([],[],[])
def zem (n:T=ti P) {i:Nat} {x:Cfg} (k:Nat) (R:Ren) {f:FuncId} {args1:List V} {st1 a:St} {r:V} (o:xO P gl f args1 st1 (Out r a))
  (c:goB T gl ops i k x R f args1 st1=true) (e:JU R st1 args1=goR T gl ops i k x R args1 st1)
  (h:yy P gl ops (k+1) (uL (uc T gl ops i k x) (yw ops k) (V.ren R r) (fun st=>St.after R st a)) K):yy P gl ops i x K:=by
 cases b:Bz T gl ops i k x with
 |none=>simp only [goB,b]at c; cases c
 | some y=>
  obtain⟨p,g⟩:=y;simp only [goB,goR,b,iF]at c e;obtain⟨⟨l,m⟩,j⟩:=c;rw [mJ]at b;rw [bc,ZP]at h;rw [bc]at j e;refine zcW n k R o ?_ ?_ h
  ·simp only [rK,mW,BE,b,l,m,j,Option.isSome_some,Bool.and_self]
  ·simp only [BE,b]; exact e
def zcQ (g:T=ti P) {i:Nat} {x:Cfg} (k t:Nat) {α:Type} (c:α->List V) {l l2 a:List α} {e e2:TypeId} {sz bytes b2:Nat} {tok2:Tok} (f:vF bytes l l2=some a)
  (j:(Nat.ble i k&&kM T e sz bytes)=true) (b:((uc T gl ops i k x).2.fams[t]?,gP T gl ops i k x)=(some l.length,vq T (uc T gl ops i k x).2 (.slice e sz bytes) (.slice e2 sz b2) (.sl sz (l.map c) (.fam t l.length)) (.sl sz (l2.map c) tok2)))
  (h:yy P gl ops (k+1) (uL (uc T gl ops i k x) (yw ops k) (.sl sz (a.map c) (.fam t a.length)) (fun st=>st.setFam t a.length)) K):yy P gl ops i x K:=by
 rw [bc,VW]at b;rw [bc,ZP]at h;exact zbN g k t c f j b h
def zcm (b:T=ti P) {i:Nat} {x:Cfg} (k:Nat) (s:List UInt8) (a:Nat.ble i k=true) (c:gP T gl ops i k x=kH (some (.sl 1 (vT s) .none)) (uc T gl ops i k x).2)
  (h:yy P gl ops (k+1) (kY (uc T gl ops i k x) (yw ops k) (.sl 1 ((s2b s).map (cI .u8)) .none)) K):yy P gl ops i x K:=
 DP b k (q:=some (.sl 1 (vT s) .none)) (by rw [Ww]) a c h
def zdu (c:T=ti P) {i:Nat} {x:Cfg} (k:Nat) (l:List Int) (a:Nat.ble i k=true) (e:gP T gl ops i k x=kH (match jp (l.map (cI .u8))with|some b=>some (.str b)|none=>none) (uc T gl ops i k x).2)
  (h:yy P gl ops (k+1) (kY (uc T gl ops i k x) (yw ops k) (.str (b2s l))) K):yy P gl ops i x K:=
 DP c k (v:= .str (b2s l)) (by rw [Us]) a e h
def hP {R:Type} (T:TypeId->TI) (gl:Nat->List V) (ops:Array Oper) (i:Nat) (x:Cfg) (F:R) (K:AFr->St->R):R:=match x with
 |(⟨n,l⟩,st)=>gH T gl ops F (fun b a=>K ⟨n,b⟩ a) (ops.toList.drop i) n l st
def Vq {R:Type} (T:TypeId->TI) (gl:Nat->List V) (ops:Array Oper) (i:Nat) (x:Cfg) (F:R) (K:AFr->St->R):
  hP T gl ops i x F K=(match jP T gl ops (ops.toList.drop i) x.1 x.2 with|some (a,st1)=>K a st1|none=>F):=by
 obtain⟨⟨n,l⟩,st⟩:=x;simp only [hP];rw [XR]
 cases h:jP T gl ops (ops.toList.drop i) ⟨n,l⟩ st with
 |none=>rfl
 | some y=>
  obtain⟨fr,b⟩:=y;have c:=(gy T gl ops () (fun _ _=>()) (ops.toList.drop i) n l st).2 fr b h;obtain⟨f,e⟩:=fr;simp only at c; subst c; rfl
def mf (T:TypeId->TI) (gl:Nat->List V) (ops:Array Oper) (i:Nat) (x:Cfg) (s0:St) (R:Ren) (fr':AFr) (st':St):Bool:=hP T gl ops i x false fun fr st=>wkB s0 R fr st fr' st'
def oA (T:TypeId->TI) (gl:Nat->List V) (ops:Array Oper) (i:Nat) (x:Cfg) (R:Ren) (fr':AFr) (st':St):List (List V)×List (Option Nat)×List V:=hP T gl ops i x ([],[],[]) fun fr st=>wkR R fr st fr' st'
def zc1 (g:T=ti P) {s0:St} {i:Nat} {x:Cfg} {fr':AFr} {st':St} (R:Ren) (a:mf T gl ops i x s0 R fr' st'=true) (c:wkL R fr' st'=oA T gl ops i x R fr' st'):
  yy P gl ops i x (toW s0 fr' st'):=by
 rw [mf,Vq]at a;rw [oA,Vq]at c
 cases e:jP T gl ops (ops.toList.drop i) x.1 x.2 with
 |none=>rw [e]at a; cases a
 | some y=>
  obtain⟨b,f⟩:=y;rw [e]at a c;have:=bJ (K:=toW s0 fr' st') g (ops.toList.drop i) [] x.1 x.2 b f e (Wk.gen R a c);rw [List.append_nil]at this; exact this
def PD {s0:St} {cs:List Code} {AQ:Exit->AFr->St->Prop} {id:Nat} {ops:Array Oper} {fr:AFr} {st:St} (fr':AFr) (st':St) (a:Cl s0 (zh P gl s0 cs AQ)) (h:yy P gl ops 0 (fr,st) (toW s0 fr' st'))
  (b:zh P gl s0 cs AQ fr' st'):zh P gl s0 (.region id ops false::cs) AQ fr st:=zcJ fr' st' a h b
end
section
variable {s0:St} {AQ:Exit->AFr->St->Prop} {K:AFr->St->Prop} {fr:AFr} {st:St}
end
attribute [irreducible] yy
end Go.Abs
end
