-- By xprint.py, a driver of ours round the kit's printer, out of the translation; Lean checks it.
import Derived.Test.YtmcmkdiefpepnaaDoorXRS0
import Derived.Test.YtmcmkdiefpepnaaDoorXRS1
import Derived.Test.YtmcmkdiefpepnaaDoorXRS2
import Derived.Test.YtmcmkdiefpepnaaDoorXRS3
import Derived.Test.YtmcmkdiefpepnaaDoorXRS4
import Derived.Test.YtmcmkdiefpepnaaDoorXRS5
import Derived.Test.YtmcmkdiefpepnaaDoorXRS6
import Derived.Test.YtmcmkdiefpepnaaDoorXRS7
import Derived.Test.YtmcmkdiefpepnaaDoorXRS8
import Derived.Test.YtmcmkdiefpepnaaDoorXRS9
namespace Go.Proofs.YtmcmkdiefpepnaaDoor.XRS
open Go.Proofs.YtmcmkdiefpepnaaDoor.Ext Go.Proofs.YtmcmkdiefpepnaaDoor.Sq
open Go.RowKit Go.Proofs.YtmcmkdiefpepnaaDoorW.PrintWords Go.Proofs.YtmcmkdiefpepnaaDoorW.PrintLast Go.Proofs.YtmcmkdiefpepnaaDoorW.PrintMore
attribute [local go_sem] max2_int min2_int max_two min_two max_three min_three max_four min_four   -- for this text's walks alone
set_option linter.unusedVariables false
set_option linter.unusedSimpArgs false

end Go.Proofs.YtmcmkdiefpepnaaDoor.XRS
