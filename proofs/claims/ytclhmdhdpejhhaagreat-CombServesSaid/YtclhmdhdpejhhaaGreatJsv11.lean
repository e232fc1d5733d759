/- Lopen: what the law needs of these -/import Derived.Deep.Slices
import Derived.ChangeSlices
import Derived.ChangeArms
import Derived.Test.YtclhmdhdpejhhaaGreatJsv10
set_option linter.unusedVariables false
namespace Go.L
open Go.ChangeShapes Go.WideShapes Go.Rp
section
variable {H:Type} {enc:TypeId×Value->H} {P:Program} {w:World} {base:Nat} {spare:Nat->Bool} {held:Bool}
end
section
variable {H:Type} {enc:TypeId×Value->H} {P:Program} {w:World} {held:Bool}
end
section
variable {H:Type} {enc:TypeId×Value->H} {P:Program} {w w':World} {held:Bool} {spare:Nat->Bool}
end
end Go.L
