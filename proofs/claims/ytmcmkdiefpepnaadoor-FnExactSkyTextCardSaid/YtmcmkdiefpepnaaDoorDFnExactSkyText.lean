-- By xrow.py, a program of ours.
import Derived.Test.YtmcmkdiefpepnaaDoorXSK8
namespace Go.Proofs.YtmcmkdiefpepnaaDoor.DFnExactSkyText
open Go Go.RowKit Go.Proofs.YtmcmkdiefpepnaaDoorW.PrintWords Go.Proofs.YtmcmkdiefpepnaaDoorW.PrintLast Go.Proofs.YtmcmkdiefpepnaaDoor.XSK
/-- The pure statement of laws_FnExactSkyText. -/
def Pure : Prop := ∀ (a0_0 : Int) (a0_1 : Int) (a0_2 : Int) (a0_3 : ByteArray) (a0_4 : ByteArray) (a0_5 : Int), (Lit.int .i64 a0_0).wf = true → (Lit.int .i64 a0_1).wf = true → (Lit.int .i64 a0_2).wf = true → a0_3.size ≤ maxLen → a0_4.size ≤ maxLen → (Lit.int .i64 a0_5).wf = true → ∃ k, laws_FnExactSkyText.f k a0_0 a0_1 a0_2 a0_3 a0_4 a0_5 = some true
end Go.Proofs.YtmcmkdiefpepnaaDoor.DFnExactSkyText
