/- WireAnchors returns true for every list of numbers and every list of anchors, and leaves both as they were. Conditions: those of the given card alone. -/
import Derived.Test.YtbggpcnbbhjiaaaGreatDoorLaw6
set_option linter.unusedVariables false
set_option linter.unusedSimpArgs false
set_option linter.unnecessarySimpa false
section
set_option maxRecDepth 100000
namespace Go.Proofs.YtbggpcnbbhjiaaaGreatDoor
open Go.ChangeShapes Go.WideShapes Go.ChangeAt Go.RowKit
theorem Kx:laidOutB Tryz.prog=true:=by kernel_rfl
theorem Jz:mapsRowed Tryz.prog=true:=by kernel_rfl
theorem JE:(Rows.wireAnchorsRow.plainKeys==Tryz.prog.plainKeys)=true:=by kernel_rfl
theorem KW:(Rows.wireAnchorsRow.inPlace==Tryz.prog.inPlace 8)=true:=by kernel_rfl
theorem Uj:(Rows.wireAnchorsRow.unfollowed==Tryz.prog.unfollowed 8)=true:=by kernel_rfl
theorem Qy:(Rows.wireAnchorsRow.recurses==Tryz.prog.recurses 8)=true:=by kernel_rfl
theorem G6:(Rows.wireAnchorsRow.named==Tryz.prog.varsNamed 8)=true:=by kernel_rfl
theorem Uk:Tryz.prog.stopsHeard=true:=by kernel_rfl
theorem J4:Tryz.prog.mayEnter=true:=by kernel_rfl
theorem Gp:(Rows.wireAnchorsRow.lifted==Tryz.prog.liftsFinal)=true:=by kernel_rfl
theorem Pr:(Tryz.prog.make==some Rows.wireAnchorsRow.make)=true:=by kernel_rfl
theorem BA : Tryz.prog.funcNamed "certpath/certpathlaw37.WireAnchors" = some 8 := by kernel_rfl
theorem Da:false=Tryz.prog.looks []:=by kernel_rfl
theorem Pe:false=Rows.wireAnchorsRow.goesBy Tryz.prog:=by kernel_rfl
theorem PI:Tryz.f8.isInstance Tryz.prog Rows.wireAnchorsRow.origin Rows.wireAnchorsRow.targs:=of_decide_eq_true (by kernel_rfl)
theorem D9:Tryz.f8.isWrapper Tryz.prog Rows.wireAnchorsRow.wrapper Rows.wireAnchorsRow.mainSum:=by
 unfold Func.isWrapper
 first|(rw [if_pos (by decide +kernel)]; kernel_rfl)|(rw [if_neg (by decide +kernel)]; exact⟨rfl,rfl⟩)
theorem cK:joinedFacts Tryz.prog 8 Tryz.f8 Rows.wireAnchorsSpec Rows.wireAnchorsRow=true:=by
 unfold joinedFacts
 simp only [Bool.and_eq_true]
 exact ⟨⟨⟨⟨⟨⟨⟨⟨⟨⟨⟨⟨⟨⟨⟨⟨⟨⟨⟨⟨⟨⟨⟨⟨⟨⟨⟨⟨⟨⟨⟨by kernel_rfl,Kx⟩,Jz⟩,by kernel_rfl⟩,by kernel_rfl⟩,by kernel_rfl⟩,by kernel_rfl⟩,by kernel_rfl⟩,by kernel_rfl⟩,
  KW⟩,Uj⟩,Qy⟩,G6⟩,by kernel_rfl⟩,by kernel_rfl⟩,by kernel_rfl⟩,by kernel_rfl⟩,by kernel_rfl⟩,by kernel_rfl⟩,by kernel_rfl⟩,by kernel_rfl⟩,by kernel_rfl⟩,
  JE⟩,by kernel_rfl⟩,Uk⟩,J4⟩,Gp⟩,Pr⟩,by kernel_rfl⟩,by kernel_rfl⟩,by kernel_rfl⟩,by kernel_rfl⟩
end Go.Proofs.YtbggpcnbbhjiaaaGreatDoor
end
