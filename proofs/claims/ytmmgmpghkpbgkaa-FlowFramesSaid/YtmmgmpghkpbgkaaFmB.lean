/- More contracts of package flow and of its reference. -/
import Derived.Test.YtmmgmpghkpbgkaaFmA
namespace Go.Proofs.Ytmmgmpghkpbgkaa
open Go.RowKit
set_option linter.unusedVariables false
set_option linter.unusedSimpArgs false


end Go.Proofs.Ytmmgmpghkpbgkaa
