/-
  The statement ReportParses, for every input: the walk's contract, lifted to the given row.
-/
import Derived.Test.YtogjghmoankleaaMReportParsesl
import Derived.SizedLaws
namespace Go.Proofs.Ytogjghmoankleaa.reportParses
open Go.ChangeShapes Go.WideShapes Go.ChangeAt Go.RowKit
open Go.ChangeMaps (open_string shut_string)
set_option linter.unusedVariables false
set_option linter.unusedSimpArgs false

end Go.Proofs.Ytogjghmoankleaa.reportParses
