/- ValidateLongest's runs, carried out by the kernel. Conditions: none beyond each statement's own. -/
import Derived.Test.YtkabooclnoiclaaGreatDoorLawL1
set_option linter.all false
section
namespace Go.K
open Go Go.Abs Go.Proofs
theorem hY (n k e a:Int):uE n k e a 5 4 1 0 3=true:=O4
theorem eZ (n k e a:Int):uE n k e a 5 4 1 3 2=true:=O4
theorem fP (n k e a:Int):uE n k e a 5 4 2 0 3=true:=O4
theorem fJ (n k e a:Int):uE n k e a 5 4 2 3 2=true:=O4
theorem lp (n k e a:Int):uE n k e a 5 4 3 0 3=true:=O4
theorem fm (n k e a:Int):uE n k e a 5 4 3 3 2=true:=O4
end Go.K
end
