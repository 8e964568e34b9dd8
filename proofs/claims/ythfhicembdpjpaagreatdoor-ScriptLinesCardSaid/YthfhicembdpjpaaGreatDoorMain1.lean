/- ScriptLines returns true for every list of numbers and leaves it as it was. Conditions: those of the given card alone. -/
import Derived.Test.YthfhicembdpjpaaGreatDoorRows
import Derived.ProofKit
import Derived.JoinedOf
import Derived.SevenTiedAt
set_option linter.all false
section
set_option maxRecDepth 100000
namespace Go.Proofs.YthfhicembdpjpaaGreatDoor
open Go.ChangeShapes Go.WideShapes Go.ChangeAt Go.RowKit
theorem QO:laidOutB Tryz.prog=true:=by kernel_rfl
theorem Jn:mapsRowed Tryz.prog=true:=by kernel_rfl
theorem Jm:(Rows.scriptLinesRow.plainKeys==Tryz.prog.plainKeys)=true:=by kernel_rfl
theorem Q4:(Rows.scriptLinesRow.inPlace==Tryz.prog.inPlace 3)=true:=by kernel_rfl
theorem Ur:(Rows.scriptLinesRow.unfollowed==Tryz.prog.unfollowed 3)=true:=by kernel_rfl
theorem Qj:(Rows.scriptLinesRow.recurses==Tryz.prog.recurses 3)=true:=by kernel_rfl
theorem Gf:(Rows.scriptLinesRow.named==Tryz.prog.varsNamed 3)=true:=by kernel_rfl
theorem Uu:Tryz.prog.stopsHeard=true:=by kernel_rfl
theorem Qc:Tryz.prog.mayEnter=true:=by kernel_rfl
theorem Bw:(Rows.scriptLinesRow.lifted==Tryz.prog.liftsFinal)=true:=by kernel_rfl
theorem De:(Tryz.prog.make==some Rows.scriptLinesRow.make)=true:=by kernel_rfl
theorem Kv : Tryz.prog.funcNamed "certpath/certpathlaw38.ScriptLines" = some 3 := by kernel_rfl
theorem Gz:true=Tryz.prog.looks []:=by kernel_rfl
theorem Bt {P:Program} (h:P.funcs.any Func.goes=false) (f:FuncId):P.goes f=false:=by
 have h1:∀g:FuncId,(P.funcs[g]?).any Func.goes=false:=fun g=>by
  cases hg:P.funcs[g]? with
  |none=>rfl
  | some fn=>
   have hm:fn∈P.funcs:=Array.mem_of_getElem? hg
   have:=Array.any_eq_false'.1 h fn hm
   simpa using this
 unfold Program.goes
 simp [h,h1]
theorem JF {P:Program} (h:P.funcs.any Func.goes=false) (c:OpenClaim):false=c.goesBy P:=by
 unfold OpenClaim.goesBy Program.goesAt Program.goesFrom
 cases P.funcNamed c.func<;>cases c.start<;>simp [Bt h]
theorem DU:Tryz.prog.funcs.any Func.goes=false:=by kernel_rfl
theorem Da:false=Rows.scriptLinesRow.goesBy Tryz.prog:=JF DU _
theorem Df:Tryz.f3.isInstance Tryz.prog Rows.scriptLinesRow.origin Rows.scriptLinesRow.targs:=of_decide_eq_true (by kernel_rfl)
theorem Dq:Tryz.f3.isWrapper Tryz.prog Rows.scriptLinesRow.wrapper Rows.scriptLinesRow.mainSum:=by
 unfold Func.isWrapper
 first|(rw [if_pos (by decide +kernel)]; kernel_rfl)|(rw [if_neg (by decide +kernel)]; exact⟨rfl,rfl⟩)
theorem Pg:joinedFacts Tryz.prog 3 Tryz.f3 Rows.scriptLinesSpec Rows.scriptLinesRow=true:=by
 unfold joinedFacts
 simp only [Bool.and_eq_true]
 exact ⟨⟨⟨⟨⟨⟨⟨⟨⟨⟨⟨⟨⟨⟨⟨⟨⟨⟨⟨⟨⟨⟨⟨⟨⟨⟨⟨⟨⟨⟨⟨by kernel_rfl,QO⟩,Jn⟩,by kernel_rfl⟩,by kernel_rfl⟩,by kernel_rfl⟩,by kernel_rfl⟩,by kernel_rfl⟩,by kernel_rfl⟩,
  Q4⟩,Ur⟩,Qj⟩,Gf⟩,by kernel_rfl⟩,by kernel_rfl⟩,by kernel_rfl⟩,by kernel_rfl⟩,by kernel_rfl⟩,by kernel_rfl⟩,by kernel_rfl⟩,by kernel_rfl⟩,by kernel_rfl⟩,
  Jm⟩,by kernel_rfl⟩,Uu⟩,Qc⟩,Bw⟩,De⟩,by kernel_rfl⟩,by kernel_rfl⟩,by kernel_rfl⟩,by kernel_rfl⟩
end Go.Proofs.YthfhicembdpjpaaGreatDoor
end
