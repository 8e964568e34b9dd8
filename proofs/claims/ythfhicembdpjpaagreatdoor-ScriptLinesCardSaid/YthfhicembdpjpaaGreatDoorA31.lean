/- Abstract values: a part. No condition beyond each statement's own. -/
import Derived.Test.YthfhicembdpjpaaGreatDoorA30
set_option linter.all false
section
namespace Go.Abs
def fl {α:Type} (c:α→List V) (l:List α):List V:=(l.map c).flatten
end Go.Abs
end
