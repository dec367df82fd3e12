/-
  From what a row says of the laid package-level variables to the facts that the walks ask. No condition.
-/
import Derived.Test.YtmcmkdiefpepnaaDoorRows
import Derived.Test.YtmcmkdiefpepnaaDoorExtStr
import Derived.Lib.LaidTab
import Derived.Stop.LaidErr
namespace Go.Proofs.YtmcmkdiefpepnaaDoor.Ext
open Go

theorem Gpow.head {W : World} {rest : List (String × DataW Unit)} (h : laidMet Tryd.prog (("internal/strconv.uint64pow10", Rows.laid_internal_strconv_uint64pow10) :: rest) W) : Gpow W :=
  Lib.tabIs_of_head (k := .u64) (zs := Lib.pow10Tab) (g := 6) (t := 215) (e := 162) (n := 20) (by kernel_rfl) (by kernel_rfl) Tryd.underlying215 Tryd.underlying162 (by kernel_rfl) (by kernel_rfl) h
end Go.Proofs.YtmcmkdiefpepnaaDoor.Ext
