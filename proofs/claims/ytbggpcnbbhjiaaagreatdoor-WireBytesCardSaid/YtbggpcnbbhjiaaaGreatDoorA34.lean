/- Layer: an abstract reading of values and worlds, and that the model's operations, regions, loops and calls keep to it. No condition beyond each statement's own. -/
import Derived.Test.YtbggpcnbbhjiaaaGreatDoorA33
set_option linter.unusedVariables false
set_option linter.unusedSimpArgs false
set_option linter.unnecessarySimpa false
section
namespace Go.Abs
def flat:Code→List Code→List Code
 | .seq a b,cs=>flat a (flat b cs)
 | .skip,cs=>cs
 |c,cs=>c::cs
section
variable {P:Program} {gl:Nat→List V} {s0:St} {c:Code} {cs:List Code} {AQ:Exit→AFr→St→Prop} {fr:AFr} {st:St}
theorem zaT {X Y:List Code} (k:∀fr st,zt P gl s0 X AQ fr st→zt P gl s0 Y AQ fr st) (h:zt P gl s0 (c::X) AQ fr st):zt P gl s0 (c::Y) AQ fr st:=
 Zj.mono h fun e fr st h'=>by
  cases e<;>first|exact k _ _ h'|exact h'
theorem pV:∀(c:Code) {cs:List Code} {fr:AFr} {st:St},zt P gl s0 (flat c cs) AQ fr st→zt P gl s0 (c::cs) AQ fr st
 | .seq a b,cs,fr,st,h=>zcY (zaT (fun _ _=>pV b) (pV a (show zt P gl s0 (flat a (flat b cs)) AQ fr st from h)))
 | .skip,cs,fr,st,h=>zaJ h
 | .region _ _ _,_,_,_,h| .ret,_,_,_,h| .exit _,_,_,_,h| .cond _ _ _,_,_,_,h| .loop _,_,_,_,h| .block _ _,_,_,_,h| .label _,_,_,_,h| .scope _,_,_,_,h| .goto _,_,_,_,h| .rangeFunc _ _ _ _,_,_,_,h| .refuse _,_,_,_,h=>h
end
end Go.Abs
end
