/- ValidateNames returns true for every four arguments. Conditions: those of the given card alone. -/
import Derived.Test.YtkabooclnoiclaaGreatDoorRows
import Derived.ProofKit
import Derived.JoinedOf
import Derived.SevenTiedAt
set_option linter.unusedVariables false
set_option linter.unusedSimpArgs false
set_option linter.unnecessarySimpa false
section
set_option maxRecDepth 100000
namespace Go.Proofs.YtkabooclnoiclaaGreatDoor
open Go.ChangeShapes Go.WideShapes Go.ChangeAt Go.RowKit
theorem bu:laidOutB Tryz.prog=true:=by kernel_rfl
theorem jR:mapsRowed Tryz.prog=true:=by kernel_rfl
theorem jL:(Rows.validateNamesRow.plainKeys==Tryz.prog.plainKeys)=true:=by kernel_rfl
theorem bC:(Rows.validateNamesRow.inPlace==Tryz.prog.inPlace 7)=true:=by kernel_rfl
theorem uL:(Rows.validateNamesRow.unfollowed==Tryz.prog.unfollowed 7)=true:=by kernel_rfl
theorem qR:(Rows.validateNamesRow.recurses==Tryz.prog.recurses 7)=true:=by kernel_rfl
theorem ZE:(Rows.validateNamesRow.named==Tryz.prog.varsNamed 7)=true:=by kernel_rfl
theorem uP:Tryz.prog.stopsHeard=true:=by kernel_rfl
theorem qP:Tryz.prog.mayEnter=true:=by kernel_rfl
theorem dI:(Rows.validateNamesRow.lifted==Tryz.prog.liftsFinal)=true:=by kernel_rfl
theorem XB:(Tryz.prog.make==some Rows.validateNamesRow.make)=true:=by kernel_rfl
theorem bS : Tryz.prog.funcNamed "certpath/certpathlaw33.ValidateNames" = some 7 := by kernel_rfl
theorem ZV:false=Tryz.prog.looks []:=by kernel_rfl
theorem dr {P:Program} (h:P.funcs.any Func.goes=false) (f:FuncId):P.goes f=false:=by
 have h1:∀g:FuncId,(P.funcs[g]?).any Func.goes=false:=fun g=>by
  cases hg:P.funcs[g]? with
  |none=>rfl
  | some fn=>
   have hm:fn∈P.funcs:=Array.mem_of_getElem? hg
   have:=Array.any_eq_false'.1 h fn hm
   simpa using this
 unfold Program.goes
 simp [h,h1]
theorem qm {P:Program} (h:P.funcs.any Func.goes=false) (c:OpenClaim):false=c.goesBy P:=by
 unfold OpenClaim.goesBy Program.goesAt Program.goesFrom
 cases P.funcNamed c.func<;>cases c.start<;>simp [dr h]
theorem WJ:Tryz.prog.funcs.any Func.goes=false:=by kernel_rfl
theorem Xw:false=Rows.validateNamesRow.goesBy Tryz.prog:=qm WJ _
theorem XC:Tryz.f7.isInstance Tryz.prog Rows.validateNamesRow.origin Rows.validateNamesRow.targs:=of_decide_eq_true (by kernel_rfl)
theorem X1:Tryz.f7.isWrapper Tryz.prog Rows.validateNamesRow.wrapper Rows.validateNamesRow.mainSum:=by
 unfold Func.isWrapper
 first|(rw [if_pos (by decide +kernel)]; kernel_rfl)|(rw [if_neg (by decide +kernel)]; exact⟨rfl,rfl⟩)
theorem UW:joinedFacts Tryz.prog 7 Tryz.f7 Rows.validateNamesSpec Rows.validateNamesRow=true:=by
 unfold joinedFacts
 simp only [Bool.and_eq_true]
 exact ⟨⟨⟨⟨⟨⟨⟨⟨⟨⟨⟨⟨⟨⟨⟨⟨⟨⟨⟨⟨⟨⟨⟨⟨⟨⟨⟨⟨⟨⟨⟨by kernel_rfl,bu⟩,jR⟩,by kernel_rfl⟩,by kernel_rfl⟩,by kernel_rfl⟩,by kernel_rfl⟩,by kernel_rfl⟩,by kernel_rfl⟩,
  bC⟩,uL⟩,qR⟩,ZE⟩,by kernel_rfl⟩,by kernel_rfl⟩,by kernel_rfl⟩,by kernel_rfl⟩,by kernel_rfl⟩,by kernel_rfl⟩,by kernel_rfl⟩,by kernel_rfl⟩,by kernel_rfl⟩,
  jL⟩,by kernel_rfl⟩,uP⟩,qP⟩,dI⟩,XB⟩,by kernel_rfl⟩,by kernel_rfl⟩,by kernel_rfl⟩,by kernel_rfl⟩
end Go.Proofs.YtkabooclnoiclaaGreatDoor
end
