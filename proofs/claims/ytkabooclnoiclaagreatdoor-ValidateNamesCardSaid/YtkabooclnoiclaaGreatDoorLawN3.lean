/- ValidateNames' runs, carried out by the kernel. Conditions: none beyond each statement's own. -/
import Derived.Test.YtkabooclnoiclaaGreatDoorLawN1
set_option linter.unusedVariables false
set_option linter.unusedSimpArgs false
set_option linter.unnecessarySimpa false
section
namespace Go.K
open Go Go.Abs Go.Proofs
theorem lF (n m:Int):uZ n m true false 0=true:=by kernel_rfl
theorem nE (n m:Int):uZ n m true false 1=true:=by kernel_rfl
theorem l6 (n m:Int):uZ n m true false 2=true:=by kernel_rfl
theorem lO (n m:Int):uZ n m true false 3=true:=by kernel_rfl
theorem lX (n m:Int):uZ n m true false 4=true:=by kernel_rfl
theorem lk (n m:Int):uZ n m true true 0=true:=by kernel_rfl
theorem l7 (n m:Int):uZ n m true true 1=true:=by kernel_rfl
theorem mh (n m:Int):uZ n m true true 2=true:=by kernel_rfl
theorem ly (n m:Int):uZ n m true true 3=true:=by kernel_rfl
theorem mc (n m:Int):uZ n m true true 4=true:=by kernel_rfl
end Go.K
end
