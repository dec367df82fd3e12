-- By xrow.py, a program of ours.
import Derived.Test.YtmcmkdiefpepnaaDoorXRS9
namespace Go.Proofs.YtmcmkdiefpepnaaDoor.DFnExactReadStamp
open Go Go.RowKit Go.Proofs.YtmcmkdiefpepnaaDoorW.PrintWords Go.Proofs.YtmcmkdiefpepnaaDoorW.PrintLast Go.Proofs.YtmcmkdiefpepnaaDoor.XRS
/-- The pure statement of laws_FnExactReadStamp. -/
def Pure : Prop := ∀ (a0 : ByteArray), a0.size ≤ maxLen → ∃ k, laws_FnExactReadStamp.f k a0 = some true
end Go.Proofs.YtmcmkdiefpepnaaDoor.DFnExactReadStamp
