/- ValidateLongest's runs, carried out by the kernel. Conditions: none beyond each statement's own. -/
import Derived.Test.YtkabooclnoiclaaGreatDoorLawL1
set_option linter.all false
section
namespace Go.K
open Go Go.Abs Go.Proofs
theorem lD (n k e a:Int):uE n k e a 2 1 0 0 3=true:=O4
theorem lq (n k e a:Int):uE n k e a 2 1 0 3 2=true:=O4
theorem fQ (n k e a:Int):uE n k e a 3 2 0 0 3=true:=O4
theorem fw (n k e a:Int):uE n k e a 3 2 0 3 2=true:=O4
theorem lK (n k e a:Int):uE n k e a 3 2 1 0 3=true:=O4
theorem fO (n k e a:Int):uE n k e a 3 2 1 3 2=true:=O4
theorem fM (n k e a:Int):uE n k e a 4 3 0 0 3=true:=O4
theorem eP (n k e a:Int):uE n k e a 4 3 0 3 2=true:=O4
theorem fv (n k e a:Int):uE n k e a 4 3 1 0 3=true:=O4
theorem f9 (n k e a:Int):uE n k e a 4 3 1 3 2=true:=O4
theorem fE (n k e a:Int):uE n k e a 4 3 2 0 3=true:=O4
theorem lr (n k e a:Int):uE n k e a 4 3 2 3 2=true:=O4
theorem lz (n k e a:Int):uE n k e a 5 4 0 0 3=true:=O4
theorem fp (n k e a:Int):uE n k e a 5 4 0 3 2=true:=O4
end Go.K
end
