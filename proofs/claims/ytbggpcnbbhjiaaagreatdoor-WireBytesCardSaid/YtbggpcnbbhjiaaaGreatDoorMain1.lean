/- WireBytes returns true for every string, and leaves it as it was. Conditions: those of the given card alone. -/
import Derived.Test.YtbggpcnbbhjiaaaGreatDoorLaw9
set_option linter.unusedVariables false
set_option linter.unusedSimpArgs false
set_option linter.unnecessarySimpa false
section
set_option maxRecDepth 100000
namespace Go.Proofs.YtbggpcnbbhjiaaaGreatDoor
open Go.ChangeShapes Go.WideShapes Go.ChangeAt Go.RowKit
theorem eL:laidOutB Tryz.prog=true:=by kernel_rfl
theorem DH:mapsRowed Tryz.prog=true:=by kernel_rfl
theorem DF:(Rows.wireBytesRow.plainKeys==Tryz.prog.plainKeys)=true:=by kernel_rfl
theorem ff:(Rows.wireBytesRow.inPlace==Tryz.prog.inPlace 9)=true:=by kernel_rfl
theorem BT:(Rows.wireBytesRow.unfollowed==Tryz.prog.unfollowed 9)=true:=by kernel_rfl
theorem cf:(Rows.wireBytesRow.recurses==Tryz.prog.recurses 9)=true:=by kernel_rfl
theorem rA:(Rows.wireBytesRow.named==Tryz.prog.varsNamed 9)=true:=by kernel_rfl
theorem BZ:Tryz.prog.stopsHeard=true:=by kernel_rfl
theorem P2:Tryz.prog.mayEnter=true:=by kernel_rfl
theorem oa:(Rows.wireBytesRow.lifted==Tryz.prog.liftsFinal)=true:=by kernel_rfl
theorem tj:(Tryz.prog.make==some Rows.wireBytesRow.make)=true:=by kernel_rfl
theorem lr : Tryz.prog.funcNamed "certpath/certpathlaw37.WireBytes" = some 9 := by kernel_rfl
theorem r5:false=Tryz.prog.looks []:=by kernel_rfl
theorem td:false=Rows.wireBytesRow.goesBy Tryz.prog:=by kernel_rfl
theorem tk:Tryz.f9.isInstance Tryz.prog Rows.wireBytesRow.origin Rows.wireBytesRow.targs:=of_decide_eq_true (by kernel_rfl)
theorem tB:Tryz.f9.isWrapper Tryz.prog Rows.wireBytesRow.wrapper Rows.wireBytesRow.mainSum:=by
 unfold Func.isWrapper
 first|(rw [if_pos (by decide +kernel)]; kernel_rfl)|(rw [if_neg (by decide +kernel)]; exact⟨rfl,rfl⟩)
theorem zaN:joinedFacts Tryz.prog 9 Tryz.f9 Rows.wireBytesSpec Rows.wireBytesRow=true:=by
 unfold joinedFacts
 simp only [Bool.and_eq_true]
 exact ⟨⟨⟨⟨⟨⟨⟨⟨⟨⟨⟨⟨⟨⟨⟨⟨⟨⟨⟨⟨⟨⟨⟨⟨⟨⟨⟨⟨⟨⟨⟨by kernel_rfl,eL⟩,DH⟩,by kernel_rfl⟩,by kernel_rfl⟩,by kernel_rfl⟩,by kernel_rfl⟩,by kernel_rfl⟩,by kernel_rfl⟩,
  ff⟩,BT⟩,cf⟩,rA⟩,by kernel_rfl⟩,by kernel_rfl⟩,by kernel_rfl⟩,by kernel_rfl⟩,by kernel_rfl⟩,by kernel_rfl⟩,by kernel_rfl⟩,by kernel_rfl⟩,by kernel_rfl⟩,
  DF⟩,by kernel_rfl⟩,BZ⟩,P2⟩,oa⟩,tj⟩,by kernel_rfl⟩,by kernel_rfl⟩,by kernel_rfl⟩,by kernel_rfl⟩
end Go.Proofs.YtbggpcnbbhjiaaaGreatDoor
end
