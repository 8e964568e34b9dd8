/- WireDecodesQueries returns true for every list of numbers, and leaves it as it was. Conditions: those of the given card alone. -/
import Derived.Test.YtbggpcnbbhjiaaaGreatDoorLaw9
set_option linter.unusedVariables false
set_option linter.unusedSimpArgs false
set_option linter.unnecessarySimpa false
section
set_option maxRecDepth 100000
namespace Go.Proofs.YtbggpcnbbhjiaaaGreatDoor
open Go.ChangeShapes Go.WideShapes Go.ChangeAt Go.RowKit
theorem ld:laidOutB Tryz.prog=true:=by kernel_rfl
theorem PO:mapsRowed Tryz.prog=true:=by kernel_rfl
theorem PL:(Rows.wireDecodesQueriesRow.plainKeys==Tryz.prog.plainKeys)=true:=by kernel_rfl
theorem lL:(Rows.wireDecodesQueriesRow.inPlace==Tryz.prog.inPlace 4)=true:=by kernel_rfl
theorem G7:(Rows.wireDecodesQueriesRow.unfollowed==Tryz.prog.unfollowed 4)=true:=by kernel_rfl
theorem ff:(Rows.wireDecodesQueriesRow.recurses==Tryz.prog.recurses 4)=true:=by kernel_rfl
theorem ta:(Rows.wireDecodesQueriesRow.named==Tryz.prog.varsNamed 4)=true:=by kernel_rfl
theorem Db:Tryz.prog.stopsHeard=true:=by kernel_rfl
theorem eW:Tryz.prog.mayEnter=true:=by kernel_rfl
theorem rH:(Rows.wireDecodesQueriesRow.lifted==Tryz.prog.liftsFinal)=true:=by kernel_rfl
theorem zaV:(Tryz.prog.make==some Rows.wireDecodesQueriesRow.make)=true:=by kernel_rfl
theorem mU : Tryz.prog.funcNamed "certpath/certpathlaw37.WireDecodesQueries" = some 4 := by kernel_rfl
theorem tI:false=Tryz.prog.looks []:=by kernel_rfl
theorem zaQ:false=Rows.wireDecodesQueriesRow.goesBy Tryz.prog:=by kernel_rfl
theorem zaW:Tryz.f4.isInstance Tryz.prog Rows.wireDecodesQueriesRow.origin Rows.wireDecodesQueriesRow.targs:=of_decide_eq_true (by kernel_rfl)
theorem za9:Tryz.f4.isWrapper Tryz.prog Rows.wireDecodesQueriesRow.wrapper Rows.wireDecodesQueriesRow.mainSum:=by
 unfold Func.isWrapper
 first|(rw [if_pos (by decide +kernel)]; kernel_rfl)|(rw [if_neg (by decide +kernel)]; exact⟨rfl,rfl⟩)
theorem zck:joinedFacts Tryz.prog 4 Tryz.f4 Rows.wireDecodesQueriesSpec Rows.wireDecodesQueriesRow=true:=by
 unfold joinedFacts
 simp only [Bool.and_eq_true]
 exact ⟨⟨⟨⟨⟨⟨⟨⟨⟨⟨⟨⟨⟨⟨⟨⟨⟨⟨⟨⟨⟨⟨⟨⟨⟨⟨⟨⟨⟨⟨⟨by kernel_rfl,ld⟩,PO⟩,by kernel_rfl⟩,by kernel_rfl⟩,by kernel_rfl⟩,by kernel_rfl⟩,by kernel_rfl⟩,by kernel_rfl⟩,
  lL⟩,G7⟩,ff⟩,ta⟩,by kernel_rfl⟩,by kernel_rfl⟩,by kernel_rfl⟩,by kernel_rfl⟩,by kernel_rfl⟩,by kernel_rfl⟩,by kernel_rfl⟩,by kernel_rfl⟩,by kernel_rfl⟩,
  PL⟩,by kernel_rfl⟩,Db⟩,eW⟩,rH⟩,zaV⟩,by kernel_rfl⟩,by kernel_rfl⟩,by kernel_rfl⟩,by kernel_rfl⟩
end Go.Proofs.YtbggpcnbbhjiaaaGreatDoor
end
