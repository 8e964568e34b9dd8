/- WireFounds returns true for every list of numbers and every value found, and leaves both as they were. Conditions: those of the given card alone. -/
import Derived.Test.YtbggpcnbbhjiaaaGreatDoorLaw6
set_option linter.unusedVariables false
set_option linter.unusedSimpArgs false
set_option linter.unnecessarySimpa false
section
set_option maxRecDepth 100000
namespace Go.Proofs.YtbggpcnbbhjiaaaGreatDoor
open Go.ChangeShapes Go.WideShapes Go.ChangeAt Go.RowKit
theorem fc_laidOut : laidOutB Tryz.prog = true := by kernel_rfl
theorem fc_mapsRowed : mapsRowed Tryz.prog = true := by kernel_rfl
theorem fc_plainKeys : (Rows.wireFoundsRow.plainKeys == Tryz.prog.plainKeys) = true := by kernel_rfl
theorem fc_inPlace : (Rows.wireFoundsRow.inPlace == Tryz.prog.inPlace 5) = true := by kernel_rfl
theorem fc_unfollowed : (Rows.wireFoundsRow.unfollowed == Tryz.prog.unfollowed 5) = true := by kernel_rfl
theorem fc_recurses : (Rows.wireFoundsRow.recurses == Tryz.prog.recurses 5) = true := by kernel_rfl
theorem fc_named : (Rows.wireFoundsRow.named == Tryz.prog.varsNamed 5) = true := by kernel_rfl
theorem fc_stopsHeard : Tryz.prog.stopsHeard = true := by kernel_rfl
theorem fc_mayEnter : Tryz.prog.mayEnter = true := by kernel_rfl
theorem fc_lifted : (Rows.wireFoundsRow.lifted == Tryz.prog.liftsFinal) = true := by kernel_rfl
theorem fc_make : (Tryz.prog.make == some Rows.wireFoundsRow.make) = true := by kernel_rfl
theorem fc_name : Tryz.prog.funcNamed "certpath/certpathlaw37.WireFounds" = some 5 := by kernel_rfl
theorem fc_looks : false = Tryz.prog.looks [] := by kernel_rfl
theorem fc_goes : false = Rows.wireFoundsRow.goesBy Tryz.prog := by kernel_rfl
theorem fc_inst : Tryz.f5.isInstance Tryz.prog Rows.wireFoundsRow.origin Rows.wireFoundsRow.targs := of_decide_eq_true (by kernel_rfl)
theorem fc_wrap : Tryz.f5.isWrapper Tryz.prog Rows.wireFoundsRow.wrapper Rows.wireFoundsRow.mainSum := by
 unfold Func.isWrapper
 first | (rw [if_pos (by decide +kernel)]; kernel_rfl) | (rw [if_neg (by decide +kernel)]; exact ⟨rfl, rfl⟩)
theorem fc_all : joinedFacts Tryz.prog 5 Tryz.f5 Rows.wireFoundsSpec Rows.wireFoundsRow = true := by
 unfold joinedFacts
 simp only [Bool.and_eq_true]
 exact ⟨⟨⟨⟨⟨⟨⟨⟨⟨⟨⟨⟨⟨⟨⟨⟨⟨⟨⟨⟨⟨⟨⟨⟨⟨⟨⟨⟨⟨⟨⟨by kernel_rfl, fc_laidOut⟩, fc_mapsRowed⟩, by kernel_rfl⟩, by kernel_rfl⟩, by kernel_rfl⟩, by kernel_rfl⟩, by kernel_rfl⟩, by kernel_rfl⟩,
  fc_inPlace⟩, fc_unfollowed⟩, fc_recurses⟩, fc_named⟩, by kernel_rfl⟩, by kernel_rfl⟩, by kernel_rfl⟩, by kernel_rfl⟩, by kernel_rfl⟩, by kernel_rfl⟩, by kernel_rfl⟩, by kernel_rfl⟩, by kernel_rfl⟩,
  fc_plainKeys⟩, by kernel_rfl⟩, fc_stopsHeard⟩, fc_mayEnter⟩, fc_lifted⟩, fc_make⟩, by kernel_rfl⟩, by kernel_rfl⟩, by kernel_rfl⟩, by kernel_rfl⟩
end Go.Proofs.YtbggpcnbbhjiaaaGreatDoor
end
