/- WireReturns returns true for every list of numbers and leaves it as it was. Conditions: those of the given card alone. -/
import Derived.Test.YtbggpcnbbhjiaaaGreatDoorLaw9
set_option linter.unusedVariables false
set_option linter.unusedSimpArgs false
set_option linter.unnecessarySimpa false
section
set_option maxRecDepth 100000
namespace Go.Proofs.YtbggpcnbbhjiaaaGreatDoor
open Go.ChangeShapes Go.WideShapes Go.ChangeAt Go.RowKit
theorem Ks:laidOutB Tryz.prog=true:=by kernel_rfl
theorem J0:mapsRowed Tryz.prog=true:=by kernel_rfl
theorem JG:(Rows.wireReturnsRow.plainKeys==Tryz.prog.plainKeys)=true:=by kernel_rfl
theorem K9:(Rows.wireReturnsRow.inPlace==Tryz.prog.inPlace 6)=true:=by kernel_rfl
theorem UH:(Rows.wireReturnsRow.unfollowed==Tryz.prog.unfollowed 6)=true:=by kernel_rfl
theorem Ka:(Rows.wireReturnsRow.recurses==Tryz.prog.recurses 6)=true:=by kernel_rfl
theorem DA:(Rows.wireReturnsRow.named==Tryz.prog.varsNamed 6)=true:=by kernel_rfl
theorem UB:Tryz.prog.stopsHeard=true:=by kernel_rfl
theorem Qc:Tryz.prog.mayEnter=true:=by kernel_rfl
theorem GT:(Rows.wireReturnsRow.lifted==Tryz.prog.liftsFinal)=true:=by kernel_rfl
theorem Px:(Tryz.prog.make==some Rows.wireReturnsRow.make)=true:=by kernel_rfl
theorem Gb : Tryz.prog.funcNamed "certpath/certpathlaw37.WireReturns" = some 6 := by kernel_rfl
theorem Dd:false=Tryz.prog.looks []:=by kernel_rfl
theorem PL:false=Rows.wireReturnsRow.goesBy Tryz.prog:=by kernel_rfl
theorem PZ:Tryz.f6.isInstance Tryz.prog Rows.wireReturnsRow.origin Rows.wireReturnsRow.targs:=of_decide_eq_true (by kernel_rfl)
theorem PO:Tryz.f6.isWrapper Tryz.prog Rows.wireReturnsRow.wrapper Rows.wireReturnsRow.mainSum:=by
 unfold Func.isWrapper
 first|(rw [if_pos (by decide +kernel)]; kernel_rfl)|(rw [if_neg (by decide +kernel)]; exact⟨rfl,rfl⟩)
theorem eF:joinedFacts Tryz.prog 6 Tryz.f6 Rows.wireReturnsSpec Rows.wireReturnsRow=true:=by
 unfold joinedFacts
 simp only [Bool.and_eq_true]
 exact ⟨⟨⟨⟨⟨⟨⟨⟨⟨⟨⟨⟨⟨⟨⟨⟨⟨⟨⟨⟨⟨⟨⟨⟨⟨⟨⟨⟨⟨⟨⟨by kernel_rfl,Ks⟩,J0⟩,by kernel_rfl⟩,by kernel_rfl⟩,by kernel_rfl⟩,by kernel_rfl⟩,by kernel_rfl⟩,by kernel_rfl⟩,
  K9⟩,UH⟩,Ka⟩,DA⟩,by kernel_rfl⟩,by kernel_rfl⟩,by kernel_rfl⟩,by kernel_rfl⟩,by kernel_rfl⟩,by kernel_rfl⟩,by kernel_rfl⟩,by kernel_rfl⟩,by kernel_rfl⟩,
  JG⟩,by kernel_rfl⟩,UB⟩,Qc⟩,GT⟩,Px⟩,by kernel_rfl⟩,by kernel_rfl⟩,by kernel_rfl⟩,by kernel_rfl⟩
end Go.Proofs.YtbggpcnbbhjiaaaGreatDoor
end
