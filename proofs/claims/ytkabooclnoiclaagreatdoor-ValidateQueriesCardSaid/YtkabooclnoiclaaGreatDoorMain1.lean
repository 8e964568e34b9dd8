/- ValidateQueries returns true for every input. Conditions: those of the given card alone. -/
import Derived.Test.YtkabooclnoiclaaGreatDoorRows
import Derived.ProofKit
import Derived.JoinedOf
import Derived.SevenTiedAt
set_option linter.all false
section
set_option maxRecDepth 100000
namespace Go.Proofs.YtkabooclnoiclaaGreatDoor
open Go.ChangeShapes Go.WideShapes Go.ChangeAt Go.RowKit
theorem Dm:laidOutB Tryz.prog=true:=by kernel_rfl
theorem Ke:mapsRowed Tryz.prog=true:=by kernel_rfl
theorem Kb:(Rows.validateQueriesRow.plainKeys==Tryz.prog.plainKeys)=true:=by kernel_rfl
theorem DF:(Rows.validateQueriesRow.inPlace==Tryz.prog.inPlace 3)=true:=by kernel_rfl
theorem UZ:(Rows.validateQueriesRow.unfollowed==Tryz.prog.unfollowed 3)=true:=by kernel_rfl
theorem Gl:(Rows.validateQueriesRow.recurses==Tryz.prog.recurses 3)=true:=by kernel_rfl
theorem mU:(Rows.validateQueriesRow.named==Tryz.prog.varsNamed 3)=true:=by kernel_rfl
theorem U5:Tryz.prog.stopsHeard=true:=by kernel_rfl
theorem B6:Tryz.prog.mayEnter=true:=by kernel_rfl
theorem fW:(Rows.validateQueriesRow.lifted==Tryz.prog.liftsFinal)=true:=by kernel_rfl
theorem sa:(Tryz.prog.make==some Rows.validateQueriesRow.make)=true:=by kernel_rfl
theorem Pu : Tryz.prog.funcNamed "certpath/certpathlaw33.ValidateQueries" = some 3 := by kernel_rfl
theorem nU:false=Tryz.prog.looks []:=by kernel_rfl
theorem fQ {P:Program} (h:P.funcs.any Func.goes=false) (f:FuncId):P.goes f=false:=by
 have h1:∀g:FuncId,(P.funcs[g]?).any Func.goes=false:=fun g=>by
  cases hg:P.funcs[g]? with
  |none=>rfl
  | some fn=>
   have hm:fn∈P.funcs:=Array.mem_of_getElem? hg
   have:=Array.any_eq_false'.1 h fn hm
   simpa using this
 unfold Program.goes
 simp [h,h1]
theorem KY {P:Program} (h:P.funcs.any Func.goes=false) (c:OpenClaim):false=c.goesBy P:=by
 unfold OpenClaim.goesBy Program.goesAt Program.goesFrom
 cases P.funcNamed c.func<;>cases c.start<;>simp [fQ h]
theorem tI:Tryz.prog.funcs.any Func.goes=false:=by kernel_rfl
theorem rS:false=Rows.validateQueriesRow.goesBy Tryz.prog:=KY tI _
theorem sb:Tryz.f3.isInstance Tryz.prog Rows.validateQueriesRow.origin Rows.validateQueriesRow.targs:=of_decide_eq_true (by kernel_rfl)
theorem sv:Tryz.f3.isWrapper Tryz.prog Rows.validateQueriesRow.wrapper Rows.validateQueriesRow.mainSum:=by
 unfold Func.isWrapper
 first|(rw [if_pos (by decide +kernel)]; kernel_rfl)|(rw [if_neg (by decide +kernel)]; exact⟨rfl,rfl⟩)
theorem za1:joinedFacts Tryz.prog 3 Tryz.f3 Rows.validateQueriesSpec Rows.validateQueriesRow=true:=by
 unfold joinedFacts
 simp only [Bool.and_eq_true]
 exact ⟨⟨⟨⟨⟨⟨⟨⟨⟨⟨⟨⟨⟨⟨⟨⟨⟨⟨⟨⟨⟨⟨⟨⟨⟨⟨⟨⟨⟨⟨⟨by kernel_rfl,Dm⟩,Ke⟩,by kernel_rfl⟩,by kernel_rfl⟩,by kernel_rfl⟩,by kernel_rfl⟩,by kernel_rfl⟩,by kernel_rfl⟩,
  DF⟩,UZ⟩,Gl⟩,mU⟩,by kernel_rfl⟩,by kernel_rfl⟩,by kernel_rfl⟩,by kernel_rfl⟩,by kernel_rfl⟩,by kernel_rfl⟩,by kernel_rfl⟩,by kernel_rfl⟩,by kernel_rfl⟩,
  Kb⟩,by kernel_rfl⟩,U5⟩,B6⟩,fW⟩,sa⟩,by kernel_rfl⟩,by kernel_rfl⟩,by kernel_rfl⟩,by kernel_rfl⟩
end Go.Proofs.YtkabooclnoiclaaGreatDoor
end
