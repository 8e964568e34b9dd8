/- Layer: an abstract reading of values and worlds, and that the model's operations, regions, loops and calls keep to it. No condition beyond each statement's own. -/
import Derived.Test.YtbggpcnbbhjiaaaGreatDoorA32
set_option linter.unusedVariables false
set_option linter.unusedSimpArgs false
set_option linter.unnecessarySimpa false
section
namespace Go.Abs
def Yu (T:TypeId→TI) (gl:Nat→List V) (ops:Array Oper) (i:Nat) (x:Cfg):Cfg:=ot T gl ops i x (⟨0,[]⟩,⟨[],[]⟩) fun fr st=>(fr,st)
def Vt (T:TypeId→TI) (gl:Nat→List V) (ops:Array Oper) (i:Nat) (x:Cfg):Bool:=ot T gl ops i x false fun _ _=>true
section
variable {P:Program} {T:TypeId→TI} {gl:Nat→List V} {ops:Array Oper} {s0:St} {cs:List Code} {AQ:Exit→AFr→St→Prop} {id:Nat}
theorem fX (hT:T=ti P) {i:Nat} {x:Cfg} (hb:Vt T gl ops i x=true):xS P gl ops i x (toW s0 (Yu T gl ops i x).1 (Yu T gl ops i x).2):=by
 rw [Vt,KA]at hb
 cases hr:pC T gl ops (ops.toList.drop i) x.1 x.2 with
 |none=>rw [hr]at hb; cases hb
 | some z=>
  obtain⟨fr1,st1⟩:=z
  have he:Yu T gl ops i x=(fr1,st1):=by rw [Yu,KA,hr]
  have:=ZX (K:=toW s0 fr1 st1) hT (ops.toList.drop i) [] x.1 x.2 fr1 st1 hr (Wk.refl _ _ _)
  rw [List.append_nil]at this
  rw [he]
  unfold xS
  exact this
theorem rS {c:Code} {y y':Cfg} (h:xS P gl ops 0 y (toW s0 y'.1 y'.2)) (h2:zt P gl s0 (c::cs) AQ y'.1 y'.2):zt P gl s0 (.region id ops false::c::cs) AQ y.1 y.2:=lG y'.1 y'.2 zS h h2
theorem lU {y y':Cfg} (hcl:Cl s0 (AQ .normal)) (h:xS P gl ops 0 y (toW s0 y'.1 y'.2)) (h2:AQ .normal y'.1 y'.2):zt P gl s0 [.region id ops false] AQ y.1 y.2:=lG y'.1 y'.2 (j7 hcl) h h2
end
attribute [irreducible] Yu
end Go.Abs
end
