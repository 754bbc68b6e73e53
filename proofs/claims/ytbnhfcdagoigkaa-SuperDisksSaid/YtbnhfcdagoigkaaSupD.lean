/- super: the document's form, and its superblock of a form; the law SuperForms. -/
import Derived.Test.YtbnhfcdagoigkaaSupC
import Derived.Test.YtbnhfcdagoigkaaHwQ
import Derived.Test.YtbnhfcdagoigkaaWabacistlaw18
set_option maxRecDepth 100000
set_option linter.unusedSimpArgs false
set_option linter.unusedVariables false
set_option linter.unnecessarySimpa false
set_option linter.unusedSectionVars false
namespace Go.Proofs.Ytbnhfcdagoigkaa.Sup
open Go Go.Hw Go.Form Go.Proofs.Ytbnhfcdagoigkaa.W Go.Proofs.Ytbnhfcdagoigkaa.Lay

end Go.Proofs.Ytbnhfcdagoigkaa.Sup
