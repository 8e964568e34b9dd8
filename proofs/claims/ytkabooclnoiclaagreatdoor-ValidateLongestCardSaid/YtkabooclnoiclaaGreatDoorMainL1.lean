/- ValidateLongest returns true for every three arguments. Conditions: those of the given card alone. -/
import Derived.Test.YtkabooclnoiclaaGreatDoorRows
import Derived.ProofKit
import Derived.JoinedOf
import Derived.SevenTiedAt
set_option linter.all false
section
set_option maxRecDepth 100000
namespace Go.Proofs.YtkabooclnoiclaaGreatDoor
open Go.ChangeShapes Go.WideShapes Go.ChangeAt Go.RowKit
theorem JG:laidOutB Tryz.prog=true:=by kernel_rfl
theorem WU:mapsRowed Tryz.prog=true:=by kernel_rfl
theorem WS:(Rows.validateLongestRow.plainKeys==Tryz.prog.plainKeys)=true:=by kernel_rfl
theorem JW:(Rows.validateLongestRow.inPlace==Tryz.prog.inPlace 5)=true:=by kernel_rfl
theorem YL:(Rows.validateLongestRow.unfollowed==Tryz.prog.unfollowed 5)=true:=by kernel_rfl
theorem UD:(Rows.validateLongestRow.recurses==Tryz.prog.recurses 5)=true:=by kernel_rfl
theorem DT:(Rows.validateLongestRow.named==Tryz.prog.varsNamed 5)=true:=by kernel_rfl
theorem YP:Tryz.prog.stopsHeard=true:=by kernel_rfl
theorem Up:Tryz.prog.mayEnter=true:=by kernel_rfl
theorem Gf:(Rows.validateLongestRow.lifted==Tryz.prog.liftsFinal)=true:=by kernel_rfl
theorem fh:(Tryz.prog.make==some Rows.validateLongestRow.make)=true:=by kernel_rfl
theorem QN : Tryz.prog.funcNamed "certpath/certpathlaw33.ValidateLongest" = some 5 := by kernel_rfl
theorem PJ:false=Tryz.prog.looks []:=by kernel_rfl
theorem B7 {P:Program} (h:P.funcs.any Func.goes=false) (f:FuncId):P.goes f=false:=by
 have h1:∀g:FuncId,(P.funcs[g]?).any Func.goes=false:=fun g=>by
  cases hg:P.funcs[g]? with
  |none=>rfl
  | some fn=>
   have hm:fn∈P.funcs:=Array.mem_of_getElem? hg
   have:=Array.any_eq_false'.1 h fn hm
   simpa using this
 unfold Program.goes
 simp [h,h1]
theorem Vv {P:Program} (h:P.funcs.any Func.goes=false) (c:OpenClaim):false=c.goesBy P:=by
 unfold OpenClaim.goesBy Program.goesAt Program.goesFrom
 cases P.funcNamed c.func<;>cases c.start<;>simp [B7 h]
theorem lW:Tryz.prog.funcs.any Func.goes=false:=by kernel_rfl
theorem eV:false=Rows.validateLongestRow.goesBy Tryz.prog:=Vv lW _
theorem fi:Tryz.f5.isInstance Tryz.prog Rows.validateLongestRow.origin Rows.validateLongestRow.targs:=of_decide_eq_true (by kernel_rfl)
theorem fL:Tryz.f5.isWrapper Tryz.prog Rows.validateLongestRow.wrapper Rows.validateLongestRow.mainSum:=by
 unfold Func.isWrapper
 first|(rw [if_pos (by decide +kernel)]; kernel_rfl)|(rw [if_neg (by decide +kernel)]; exact⟨rfl,rfl⟩)
theorem nO:joinedFacts Tryz.prog 5 Tryz.f5 Rows.validateLongestSpec Rows.validateLongestRow=true:=by
 unfold joinedFacts
 simp only [Bool.and_eq_true]
 exact ⟨⟨⟨⟨⟨⟨⟨⟨⟨⟨⟨⟨⟨⟨⟨⟨⟨⟨⟨⟨⟨⟨⟨⟨⟨⟨⟨⟨⟨⟨⟨by kernel_rfl,JG⟩,WU⟩,by kernel_rfl⟩,by kernel_rfl⟩,by kernel_rfl⟩,by kernel_rfl⟩,by kernel_rfl⟩,by kernel_rfl⟩,
  JW⟩,YL⟩,UD⟩,DT⟩,by kernel_rfl⟩,by kernel_rfl⟩,by kernel_rfl⟩,by kernel_rfl⟩,by kernel_rfl⟩,by kernel_rfl⟩,by kernel_rfl⟩,by kernel_rfl⟩,by kernel_rfl⟩,
  WS⟩,by kernel_rfl⟩,YP⟩,Up⟩,Gf⟩,fh⟩,by kernel_rfl⟩,by kernel_rfl⟩,by kernel_rfl⟩,by kernel_rfl⟩
end Go.Proofs.YtkabooclnoiclaaGreatDoor
end
