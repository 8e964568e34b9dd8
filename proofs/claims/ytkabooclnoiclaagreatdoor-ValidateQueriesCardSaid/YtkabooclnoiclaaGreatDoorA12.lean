/- Abstract values. No condition. -/
import Derived.Test.YtkabooclnoiclaaGreatDoorA11
set_option linter.all false
noncomputable section
namespace Go.Abs
open Go.RowKit (Below)
def XC (P:Program) (f:FuncId):Bool:=
 match P.funcs[f]? with
 | some fn => fn.body.isSome && !(fn.name == "runtime.NumGoroutine")
 |none=>false
def xO (P:Program) (gl:Nat->List V) (f:FuncId) (args:List V) (st:St) (Q:V->St->Prop):Prop:=
 XC P f=true∧∀(g:xi) (G:Gh) (w:World) (a:Array Value),Rel gl g G st w->VRs G args a->V.scs st args ->
  Calls P f a w fun e h=>∃r c b G',e= .returned c∧Q r b∧VR G' r c∧V.sc b r∧Rel gl g G' b h∧Ext st G G'∧st.le b
def xO.mono {P:Program} {gl:Nat->List V} {f:FuncId} {args:List V} {st:St} {Q Q':V->St->Prop} (h:xO P gl f args st Q) (m:∀r st',Q r st'->Q' r st'):xO P gl f args st Q':=
 ⟨h.1,fun n G w a j k l=>(h.2 n G w a j k l).mono fun e o ⟨r,c,st',G',b,g,i⟩=>⟨r,c,st',G',b,m _ _ g,i⟩⟩
def LQ (gl:Nat->List V) (w0:xi) (st0:St) (G0:Gh) (AQ:Exit->AFr->St->Prop):Exit->Act->World->Prop:=
 fun e a w=>∃fr st G,AQ e fr st∧Rel gl w0 G st w∧wP G st fr a∧Ext st0 G0 G∧st0.le st
def WH (P:Program) (gl:Nat->List V) (c:Code) (AQ:Exit->AFr->St->Prop) (fr:AFr) (st:St):Prop:=
 ∀(b:xi) (G:Gh) (w:World) (a:Act),Rel gl b G st w->wP G st fr a->c.wp P (LQ gl b st G AQ) a w
section
variable {P:Program} {gl:Nat->List V} {st:St} {fr:AFr} {AQ:Exit->AFr->St->Prop}
def wE (K:AFr->St->Prop) (AQ:Exit->AFr->St->Prop):Exit->AFr->St->Prop
 | .normal,fr,st=>K fr st
 |e,fr,st=>AQ e fr st
def qd (id:Nat) (AQ:Exit->AFr->St->Prop):Exit->AFr->St->Prop
 | .exit id',fr,st=>if id'=id then AQ .normal fr st else AQ (.exit id') fr st
 |e,fr,st=>AQ e fr st
def dN {p:Nat->Prop} (h:∃n,p n):∃n,p n∧∀m,p m->n<=m:=by
 obtain⟨n,f⟩:=h
 induction n using Nat.strongRecOn with
 | _ n g=>
  by_cases c:∃m,m<n∧p m
  ·obtain⟨m,a,e⟩:=c; exact g m a e
  ·refine⟨n,f,fun m b=> ?_⟩;rcases iS m n with a|a
   ·exact absurd ⟨m,a,b⟩ c
   ·exact a
open Classical in
def dO (p:Nat->Prop):Nat:=if h:∃n,p n then Classical.choose (dN h)else 0
def J2 {p:Nat->Prop} (h:∃n,p n):p (dO p):=by
 unfold dO; rw [dif_pos h]; exact(Classical.choose_spec (dN h)).1
def Do {p:Nat->Prop} {m:Nat} (h:p m):dO p<=m:=by
 have a:∃n,p n:=⟨m,h⟩
 unfold dO; rw [dif_pos a]; exact(Classical.choose_spec (dN a)).2 m h
end
end Go.Abs
end
