/- WireEncodesQueries returns true for every list of numbers and every raw query, and leaves both as they were. Conditions: those of the given card alone. -/
import Derived.Test.YtbggpcnbbhjiaaaGreatDoorLaw9
set_option linter.unusedVariables false
set_option linter.unusedSimpArgs false
set_option linter.unnecessarySimpa false
section
set_option maxRecDepth 100000
namespace Go.Proofs.YtbggpcnbbhjiaaaGreatDoor
open Go.ChangeShapes Go.WideShapes Go.ChangeAt Go.RowKit
theorem Bo:laidOutB Tryz.prog=true:=by kernel_rfl
theorem J9:mapsRowed Tryz.prog=true:=by kernel_rfl
theorem J2:(Rows.wireEncodesQueriesRow.plainKeys==Tryz.prog.plainKeys)=true:=by kernel_rfl
theorem KU:(Rows.wireEncodesQueriesRow.inPlace==Tryz.prog.inPlace 3)=true:=by kernel_rfl
theorem U2:(Rows.wireEncodesQueriesRow.unfollowed==Tryz.prog.unfollowed 3)=true:=by kernel_rfl
theorem Ki:(Rows.wireEncodesQueriesRow.recurses==Tryz.prog.recurses 3)=true:=by kernel_rfl
theorem PD:(Rows.wireEncodesQueriesRow.named==Tryz.prog.varsNamed 3)=true:=by kernel_rfl
theorem U7:Tryz.prog.stopsHeard=true:=by kernel_rfl
theorem Q6:Tryz.prog.mayEnter=true:=by kernel_rfl
theorem Dc:(Rows.wireEncodesQueriesRow.lifted==Tryz.prog.liftsFinal)=true:=by kernel_rfl
theorem eB:(Tryz.prog.make==some Rows.wireEncodesQueriesRow.make)=true:=by kernel_rfl
theorem Gs : Tryz.prog.funcNamed "certpath/certpathlaw37.WireEncodesQueries" = some 3 := by kernel_rfl
theorem PS:false=Tryz.prog.looks []:=by kernel_rfl
theorem eT:false=Rows.wireEncodesQueriesRow.goesBy Tryz.prog:=by kernel_rfl
theorem eJ:Tryz.f3.isInstance Tryz.prog Rows.wireEncodesQueriesRow.origin Rows.wireEncodesQueriesRow.targs:=of_decide_eq_true (by kernel_rfl)
theorem eZ:Tryz.f3.isWrapper Tryz.prog Rows.wireEncodesQueriesRow.wrapper Rows.wireEncodesQueriesRow.mainSum:=by
 unfold Func.isWrapper
 first|(rw [if_pos (by decide +kernel)]; kernel_rfl)|(rw [if_neg (by decide +kernel)]; exact⟨rfl,rfl⟩)
theorem fW:joinedFacts Tryz.prog 3 Tryz.f3 Rows.wireEncodesQueriesSpec Rows.wireEncodesQueriesRow=true:=by
 unfold joinedFacts
 simp only [Bool.and_eq_true]
 exact ⟨⟨⟨⟨⟨⟨⟨⟨⟨⟨⟨⟨⟨⟨⟨⟨⟨⟨⟨⟨⟨⟨⟨⟨⟨⟨⟨⟨⟨⟨⟨by kernel_rfl,Bo⟩,J9⟩,by kernel_rfl⟩,by kernel_rfl⟩,by kernel_rfl⟩,by kernel_rfl⟩,by kernel_rfl⟩,by kernel_rfl⟩,
  KU⟩,U2⟩,Ki⟩,PD⟩,by kernel_rfl⟩,by kernel_rfl⟩,by kernel_rfl⟩,by kernel_rfl⟩,by kernel_rfl⟩,by kernel_rfl⟩,by kernel_rfl⟩,by kernel_rfl⟩,by kernel_rfl⟩,
  J2⟩,by kernel_rfl⟩,U7⟩,Q6⟩,Dc⟩,eB⟩,by kernel_rfl⟩,by kernel_rfl⟩,by kernel_rfl⟩,by kernel_rfl⟩
end Go.Proofs.YtbggpcnbbhjiaaaGreatDoor
end
