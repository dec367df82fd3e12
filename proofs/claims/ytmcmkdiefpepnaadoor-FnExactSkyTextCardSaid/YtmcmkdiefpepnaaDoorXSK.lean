-- By xprint.py, a driver of ours round the kit's printer, out of the translation; Lean checks it.
import Derived.Test.YtmcmkdiefpepnaaDoorXSK0
import Derived.Test.YtmcmkdiefpepnaaDoorXSK1
import Derived.Test.YtmcmkdiefpepnaaDoorXSK2
import Derived.Test.YtmcmkdiefpepnaaDoorXSK3
import Derived.Test.YtmcmkdiefpepnaaDoorXSK4
import Derived.Test.YtmcmkdiefpepnaaDoorXSK5
import Derived.Test.YtmcmkdiefpepnaaDoorXSK6
import Derived.Test.YtmcmkdiefpepnaaDoorXSK7
import Derived.Test.YtmcmkdiefpepnaaDoorXSK8
namespace Go.Proofs.YtmcmkdiefpepnaaDoor.XSK
open Go.Proofs.YtmcmkdiefpepnaaDoor.Ext
open Go.RowKit Go.Proofs.YtmcmkdiefpepnaaDoorW.PrintWords Go.Proofs.YtmcmkdiefpepnaaDoorW.PrintLast Go.Proofs.YtmcmkdiefpepnaaDoorW.PrintMore
attribute [local go_sem] max2_int min2_int max_two min_two max_three min_three max_four min_four   -- for this text's walks alone
set_option linter.unusedVariables false
set_option linter.unusedSimpArgs false

end Go.Proofs.YtmcmkdiefpepnaaDoor.XSK
