/- Layer: an abstract reading of values and worlds, and that the model's operations, regions, loops and calls keep to it. No condition beyond each statement's own. -/
import Derived.Test.YtbggpcnbbhjiaaaGreatDoorA13
set_option linter.unusedVariables false
set_option linter.unusedSimpArgs false
set_option linter.unnecessarySimpa false
section
namespace Go.Abs
open Go.RowKit (Below)
@[congr] theorem oo.congr {p p' A A' B B' : Prop} (hp : p = p') (ha : p' → A = A') (hb : ¬p' → B = B') : oo p A B = oo p' A' B' := by
 subst hp
 apply propext
 exact⟨fun h=>⟨fun x=>(ha x)▸h.1 x,fun x=>(hb x)▸h.2 x⟩,fun h=>⟨fun x=>(ha x).symm▸h.1 x,fun x=>(hb x).symm▸h.2 x⟩⟩
@[congr] theorem uR.congrArgs {P : Program} {gl : Nat → List V} {f f' : FuncId} {args args' : List V} {st st' : St} {Q : V → St → Prop} (hf : f = f') (ha : args = args') (hs : st = st') : uR P gl f args st Q = uR P gl f' args' st' Q := by
 subst hf ha hs; rfl
attribute [simp ↓] dw aOp XF
attribute [simp] gW Uk wV AFr.eval AFr.put vV B3 Ya UQ rV rp aun cY ba mf JY Jj rd TD.agg V.isCells V.isCell V.cells V.of V.ofCell V.add V.isNil un pU dJ Vb Du dM QF JR eS V.pure V.pures V.pcell V.pcells V.sc V.scs BO
attribute [simp] List.getElem?_cons_zero List.getElem?_cons_succ List.getElem?_nil IntKind.bits
end Go.Abs
end
