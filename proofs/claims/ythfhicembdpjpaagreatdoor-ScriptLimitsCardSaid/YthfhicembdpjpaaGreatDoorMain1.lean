/- ScriptLimits returns true for every two numbers and leaves them as they were. Conditions: those of the given card alone. -/
import Derived.Test.YthfhicembdpjpaaGreatDoorRows
import Derived.ProofKit
import Derived.JoinedOf
import Derived.SevenTiedAt
set_option linter.unusedVariables false
set_option linter.unusedSimpArgs false
set_option linter.unnecessarySimpa false
section
set_option maxRecDepth 100000
namespace Go.Proofs.YthfhicembdpjpaaGreatDoor
open Go.ChangeShapes Go.WideShapes Go.ChangeAt Go.RowKit
theorem fc_laidOut : laidOutB Tryz.prog = true := by kernel_rfl
theorem fc_mapsRowed : mapsRowed Tryz.prog = true := by kernel_rfl
theorem fc_plainKeys : (Rows.scriptLimitsRow.plainKeys == Tryz.prog.plainKeys) = true := by kernel_rfl
theorem fc_inPlace : (Rows.scriptLimitsRow.inPlace == Tryz.prog.inPlace 4) = true := by kernel_rfl
theorem fc_unfollowed : (Rows.scriptLimitsRow.unfollowed == Tryz.prog.unfollowed 4) = true := by kernel_rfl
theorem fc_recurses : (Rows.scriptLimitsRow.recurses == Tryz.prog.recurses 4) = true := by kernel_rfl
theorem fc_named : (Rows.scriptLimitsRow.named == Tryz.prog.varsNamed 4) = true := by kernel_rfl
theorem fc_stopsHeard : Tryz.prog.stopsHeard = true := by kernel_rfl
theorem fc_mayEnter : Tryz.prog.mayEnter = true := by kernel_rfl
theorem fc_lifted : (Rows.scriptLimitsRow.lifted == Tryz.prog.liftsFinal) = true := by kernel_rfl
theorem fc_make : (Tryz.prog.make == some Rows.scriptLimitsRow.make) = true := by kernel_rfl
theorem fc_name : Tryz.prog.funcNamed "certpath/certpathlaw38.ScriptLimits" = some 4 := by kernel_rfl
theorem fc_looks : true = Tryz.prog.looks [] := by kernel_rfl
theorem goes_none {P : Program} (h : P.funcs.any Func.goes = false) (f : FuncId) : P.goes f = false := by
 have h1 : ∀ g : FuncId, (P.funcs[g]?).any Func.goes = false := fun g => by
  cases hg : P.funcs[g]? with
  | none => rfl
  | some fn =>
   have hm : fn ∈ P.funcs := Array.mem_of_getElem? hg
   have := Array.any_eq_false'.1 h fn hm
   simpa using this
 unfold Program.goes
 simp [h, h1]
theorem goesBy_none {P : Program} (h : P.funcs.any Func.goes = false) (c : OpenClaim) : false = c.goesBy P := by
 unfold OpenClaim.goesBy Program.goesAt Program.goesFrom
 cases P.funcNamed c.func <;> cases c.start <;> simp [goes_none h]
theorem fc_nogo : Tryz.prog.funcs.any Func.goes = false := by kernel_rfl
theorem fc_goes : false = Rows.scriptLimitsRow.goesBy Tryz.prog := goesBy_none fc_nogo _
theorem fc_inst : Tryz.f4.isInstance Tryz.prog Rows.scriptLimitsRow.origin Rows.scriptLimitsRow.targs := of_decide_eq_true (by kernel_rfl)
theorem fc_wrap : Tryz.f4.isWrapper Tryz.prog Rows.scriptLimitsRow.wrapper Rows.scriptLimitsRow.mainSum := by
 unfold Func.isWrapper
 first | (rw [if_pos (by decide +kernel)]; kernel_rfl) | (rw [if_neg (by decide +kernel)]; exact ⟨rfl, rfl⟩)
theorem fc_all : joinedFacts Tryz.prog 4 Tryz.f4 Rows.scriptLimitsSpec Rows.scriptLimitsRow = true := by
 unfold joinedFacts
 simp only [Bool.and_eq_true]
 exact ⟨⟨⟨⟨⟨⟨⟨⟨⟨⟨⟨⟨⟨⟨⟨⟨⟨⟨⟨⟨⟨⟨⟨⟨⟨⟨⟨⟨⟨⟨⟨by kernel_rfl, fc_laidOut⟩, fc_mapsRowed⟩, by kernel_rfl⟩, by kernel_rfl⟩, by kernel_rfl⟩, by kernel_rfl⟩, by kernel_rfl⟩, by kernel_rfl⟩,
  fc_inPlace⟩, fc_unfollowed⟩, fc_recurses⟩, fc_named⟩, by kernel_rfl⟩, by kernel_rfl⟩, by kernel_rfl⟩, by kernel_rfl⟩, by kernel_rfl⟩, by kernel_rfl⟩, by kernel_rfl⟩, by kernel_rfl⟩, by kernel_rfl⟩,
  fc_plainKeys⟩, by kernel_rfl⟩, fc_stopsHeard⟩, fc_mayEnter⟩, fc_lifted⟩, fc_make⟩, by kernel_rfl⟩, by kernel_rfl⟩, by kernel_rfl⟩, by kernel_rfl⟩
end Go.Proofs.YthfhicembdpjpaaGreatDoor
end
