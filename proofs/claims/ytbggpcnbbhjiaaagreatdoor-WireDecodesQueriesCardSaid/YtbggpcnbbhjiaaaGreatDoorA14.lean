/- Layer: an abstract reading of values and worlds, and that the model's operations, regions, loops and calls keep to it. No condition beyond each statement's own. -/
import Derived.Test.YtbggpcnbbhjiaaaGreatDoorA13
set_option linter.unusedVariables false
set_option linter.unusedSimpArgs false
set_option linter.unnecessarySimpa false
section
namespace Go.Abs
open Go.RowKit (Below)
@[congr] theorem rT.congr {p p' A A' B B' : Prop} (hp : p = p') (ha : p' → A = A') (hb : ¬p' → B = B') : rT p A B = rT p' A' B' := by
 subst hp
 apply propext
 exact⟨fun h=>⟨fun x=>(ha x)▸h.1 x,fun x=>(hb x)▸h.2 x⟩,fun h=>⟨fun x=>(ha x).symm▸h.1 x,fun x=>(hb x).symm▸h.2 x⟩⟩
@[congr] theorem uQ.congrArgs {P : Program} {gl : Nat → List V} {f f' : FuncId} {args args' : List V} {st st' : St} {Q : V → St → Prop} (hf : f = f') (ha : args = args') (hs : st = st') : uQ P gl f args st Q = uQ P gl f' args' st' Q := by
 subst hf ha hs; rfl
attribute [simp ↓] dG aOp Ww
attribute [simp] dB Je wW AFr.eval AFr.put ub Df YI JM tC sX aun fP qt nI QU Qc rd TD.agg V.isCells V.isCell V.cells V.of V.ofCell V.add V.isNil uy Zy pn V8 Px pv QX QO lv V.pure V.pures V.pcell V.pcells V.sc V.scs G4
attribute [simp] List.getElem?_cons_zero List.getElem?_cons_succ List.getElem?_nil IntKind.bits
@[simp] theorem St.put_vars_length (st : St) (id : Nat) (c : List V) : (st.put id c).vars.length = st.vars.length := by simp [St.put]
end Go.Abs
end
