-- By xrow.py, a program of ours.
import Derived.Test.YtmcmkdiefpepnaaDoorXHT6
namespace Go.Proofs.YtmcmkdiefpepnaaDoor.DFnExactHeadingText
open Go Go.RowKit Go.Proofs.YtmcmkdiefpepnaaDoorW.PrintWords Go.Proofs.YtmcmkdiefpepnaaDoorW.PrintLast Go.Proofs.YtmcmkdiefpepnaaDoor.XHT
/-- The pure statement of laws_FnExactHeadingText. -/
def Pure : Prop := ∀ (a0_0 : ByteArray) (a0_1 : ByteArray) (a0_2 : Int) (a0_3 : ByteArray) (a0_4 : Int) (a0_5 : Int) (a0_6 : Int) (a0_7 : ByteArray), a0_0.size ≤ maxLen → a0_1.size ≤ maxLen → (Lit.int .i64 a0_2).wf = true → a0_3.size ≤ maxLen → (Lit.int .i64 a0_4).wf = true → (Lit.int .i64 a0_5).wf = true → (Lit.int .i64 a0_6).wf = true → a0_7.size ≤ maxLen → ∃ k, laws_FnExactHeadingText.f k a0_0 a0_1 a0_2 a0_3 a0_4 a0_5 a0_6 a0_7 = some true
end Go.Proofs.YtmcmkdiefpepnaaDoor.DFnExactHeadingText
