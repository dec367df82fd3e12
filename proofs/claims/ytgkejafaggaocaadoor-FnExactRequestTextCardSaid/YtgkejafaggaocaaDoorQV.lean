/-
  Part of a proof by the engine: texts that a program of ours printed, or plain lemmas on them. No condition but what each theorem says.
-/
import Derived.Test.YtgkejafaggaocaaDoorQ1
import Derived.Test.YtgkejafaggaocaaDoorQ2
import Derived.Test.YtgkejafaggaocaaDoorQ3
import Derived.Test.YtgkejafaggaocaaDoorQ4
set_option linter.unusedVariables false
set_option linter.unusedSimpArgs false
namespace Go.Proofs.YtgkejafaggaocaaDoor.QV
open Go Go.Eng Go.Proofs
noncomputable def gl : Nat → Option (List Cell) := glOf [(4, DT.L_strconv_uint64pow10.map (Cell.int .u64))]
noncomputable abbrev add_51 := @Q1.impl_RequestText_1
noncomputable abbrev add_52 := @Q2.impl_RequestText_1
noncomputable abbrev add_54 := @Q3.impl_RequestText_1
noncomputable abbrev add_55 := @Q4.impl_RequestText_1
noncomputable abbrev g_add_51 : Sg := Q1.g_impl_RequestText_1
noncomputable abbrev g_add_52 : Sg := Q2.g_impl_RequestText_1
noncomputable abbrev g_add_54 : Sg := Q3.g_impl_RequestText_1
noncomputable abbrev g_add_55 : Sg := Q4.g_impl_RequestText_1
theorem e_add_51 : Sound Tryd.prog gl 50 g_add_51 := Q1.e_impl_RequestText_1
theorem e_add_52 : Sound Tryd.prog gl 50 g_add_52 := Q2.e_impl_RequestText_1
theorem e_add_54 : Sound Tryd.prog gl 50 g_add_54 := Q3.e_impl_RequestText_1
theorem e_add_55 : Sound Tryd.prog gl 50 g_add_55 := Q4.e_impl_RequestText_1
end Go.Proofs.YtgkejafaggaocaaDoor.QV
