-- By xprint.py, a driver of ours round the kit's printer, out of the translation; Lean checks it.
import Derived.Test.YtmcmkdiefpepnaaDoorXHT0
import Derived.Test.YtmcmkdiefpepnaaDoorXHT1
import Derived.Test.YtmcmkdiefpepnaaDoorXHT2
import Derived.Test.YtmcmkdiefpepnaaDoorXHT3
import Derived.Test.YtmcmkdiefpepnaaDoorXHT4
import Derived.Test.YtmcmkdiefpepnaaDoorXHT5
import Derived.Test.YtmcmkdiefpepnaaDoorXHT6
namespace Go.Proofs.YtmcmkdiefpepnaaDoor.XHT
open Go.Proofs.YtmcmkdiefpepnaaDoor.Ext
open Go.RowKit Go.Proofs.YtmcmkdiefpepnaaDoorW.PrintWords Go.Proofs.YtmcmkdiefpepnaaDoorW.PrintLast Go.Proofs.YtmcmkdiefpepnaaDoorW.PrintMore
attribute [local go_sem] max2_int min2_int max_two min_two max_three min_three max_four min_four   -- for this text's walks alone
set_option linter.unusedVariables false
set_option linter.unusedSimpArgs false

end Go.Proofs.YtmcmkdiefpepnaaDoor.XHT
