/- ValidateNames' runs, carried out by the kernel. Conditions: none beyond each statement's own. -/
import Derived.Test.YtkabooclnoiclaaGreatDoorLawN1
set_option linter.unusedVariables false
set_option linter.unusedSimpArgs false
set_option linter.unnecessarySimpa false
section
namespace Go.K
open Go Go.Abs Go.Proofs
theorem lQ (n m:Int):uZ n m false false 0=true:=by kernel_rfl
theorem ml (n m:Int):uZ n m false false 1=true:=by kernel_rfl
theorem mR (n m:Int):uZ n m false false 2=true:=by kernel_rfl
theorem lM (n m:Int):uZ n m false false 3=true:=by kernel_rfl
theorem mJ (n m:Int):uZ n m false false 4=true:=by kernel_rfl
theorem lT (n m:Int):uZ n m false true 0=true:=by kernel_rfl
theorem nk (n m:Int):uZ n m false true 1=true:=by kernel_rfl
theorem mA (n m:Int):uZ n m false true 2=true:=by kernel_rfl
theorem mf (n m:Int):uZ n m false true 3=true:=by kernel_rfl
theorem lg (n m:Int):uZ n m false true 4=true:=by kernel_rfl
end Go.K
end
