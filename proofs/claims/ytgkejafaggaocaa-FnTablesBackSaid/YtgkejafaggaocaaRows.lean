/-
  No cell of these rows narrows 'for every input' (looked for: loops, veiled, ifaces, maps, wideKeys, modest, calm, conditions, laid).
  DERIVED. THE GIVEN ROWS OF THIS SEAT. 7 by the template 'for every input the law returns true; each argument reads behind the call as it read before'; 0 by the template 'total and deterministic' (their statements: YtgkejafaggaocaaTotals.lean).
  GIVEN WITH THE SEED: the statements are not yours to turn. If you find one false, say at which input.
  Laid BY PROGRAM, IN A SANDBOX (cutbox-rows.mjs): the forced cells as the released guide's own fill.sh prints them over the translation 80fd48711a253531… (all of the seat's roots in one cut). By AI agents, Wed Nov 11 2026. No macro, syntax, notation, axiom, sorry.
-/
import Derived.Test.YtgkejafaggaocaaChecked
import GoSem.Claim
import GoSem.ClaimJoined
import GoSem.ClaimMapViews
import Derived.JoinedTies
import Derived.KernelRfl
namespace Go.Proofs.Ytgkejafaggaocaa
/- THE CELL 'sum', in the pinned program and in every row, IS THE sha256 OF THE DUMP (.gsa) THAT YtgkejafaggaocaaProg.lean LOADS. Nothing in Lean hashes anything: it is a label: what it is worth is what the hold of that sum in a sandbox is worth. -/
noncomputable def Try.pinned : Pinned := { name := "ytgkejafaggaocaa", sum := "80fd48711a2535319b4d9bd137f902b8e3dcb940d02393b9a66d1113a1c88878", checked := Try.checked }
namespace Rows
def none {H : Type} : Left H := { results := [], args := [] }

/-- 'laws.FnExactSignif': WHATEVER THE INPUT: true; the input reads as it did. -/
def fnExactSignifSpec : ChangeSpec := { name := "fnExactSignif", fn := fun _ => fun
  | [d1, d2] => { results := [.lit (.bool true)], args := [d1, d2] }
  | _ => none }
def fnExactSignifRow : OpenClaim := { program := "ytgkejafaggaocaa", sum := "80fd48711a2535319b4d9bd137f902b8e3dcb940d02393b9a66d1113a1c88878", func := "loop.example/g00051/laws.FnExactSignif", spec := "fnExactSignif", inPlace := ["math.Float64bits", "math.Float64frombits"], unfollowed := true, recurses := true, apart := false }
def FnExactSignifSaid : Prop := fnExactSignifRow.holds Try.pinned (OpenSpec.ofChange fnExactSignifSpec)

/-- ITS FALSE NEIGHBOUR: 'it returns false'. Refute it at one input. -/
def fnExactSignifWrong : ChangeSpec := { name := "fnExactSignif", fn := fun _ => fun
  | [d1, d2] => { results := [.lit (.bool false)], args := [d1, d2] }
  | _ => none }
def FnExactSignifWrongFalsely : Prop := fnExactSignifRow.holds Try.pinned (OpenSpec.ofChange fnExactSignifWrong)

/-- 'laws.FnFewer': WHATEVER THE INPUT: true; the input reads as it did. -/
def fnFewerSpec : ChangeSpec := { name := "fnFewer", fn := fun _ => fun
  | [d1, d2] => { results := [.lit (.bool true)], args := [d1, d2] }
  | _ => none }
def fnFewerRow : OpenClaim := { program := "ytgkejafaggaocaa", sum := "80fd48711a2535319b4d9bd137f902b8e3dcb940d02393b9a66d1113a1c88878", func := "loop.example/g00051/laws.FnFewer", spec := "fnFewer", inPlace := ["math.Float64bits", "math.Float64frombits"], unfollowed := true, recurses := true, apart := false }
def FnFewerSaid : Prop := fnFewerRow.holds Try.pinned (OpenSpec.ofChange fnFewerSpec)

/-- ITS FALSE NEIGHBOUR: 'it returns false'. Refute it at one input. -/
def fnFewerWrong : ChangeSpec := { name := "fnFewer", fn := fun _ => fun
  | [d1, d2] => { results := [.lit (.bool false)], args := [d1, d2] }
  | _ => none }
def FnFewerWrongFalsely : Prop := fnFewerRow.holds Try.pinned (OpenSpec.ofChange fnFewerWrong)

/-- 'laws.FnSignificant': WHATEVER THE INPUT: true; the input reads as it did. -/
def fnSignificantSpec : ChangeSpec := { name := "fnSignificant", fn := fun _ => fun
  | [d] => { results := [.lit (.bool true)], args := [d] }
  | _ => none }
def fnSignificantRow : OpenClaim := { program := "ytgkejafaggaocaa", sum := "80fd48711a2535319b4d9bd137f902b8e3dcb940d02393b9a66d1113a1c88878", func := "loop.example/g00051/laws.FnSignificant", spec := "fnSignificant", inPlace := ["math.Float64bits", "math.Float64frombits"], unfollowed := true, recurses := true, apart := false }
def FnSignificantSaid : Prop := fnSignificantRow.holds Try.pinned (OpenSpec.ofChange fnSignificantSpec)

/-- ITS FALSE NEIGHBOUR: 'it returns false'. Refute it at one input. -/
def fnSignificantWrong : ChangeSpec := { name := "fnSignificant", fn := fun _ => fun
  | [d] => { results := [.lit (.bool false)], args := [d] }
  | _ => none }
def FnSignificantWrongFalsely : Prop := fnSignificantRow.holds Try.pinned (OpenSpec.ofChange fnSignificantWrong)

/-- 'laws.FnExactDecode': WHATEVER THE INPUT: true; the input reads as it did. -/
def fnExactDecodeSpec : ChangeSpec := { name := "fnExactDecode", fn := fun _ => fun
  | [d1, d2, d3] => { results := [.lit (.bool true)], args := [d1, d2, d3] }
  | _ => none }
def fnExactDecodeRow : OpenClaim := { program := "ytgkejafaggaocaa", sum := "80fd48711a2535319b4d9bd137f902b8e3dcb940d02393b9a66d1113a1c88878", func := "loop.example/g00051/laws.FnExactDecode", spec := "fnExactDecode", inPlace := ["math.Float64frombits"], unfollowed := true, recurses := true, apart := false }
def FnExactDecodeSaid : Prop := fnExactDecodeRow.holds Try.pinned (OpenSpec.ofChange fnExactDecodeSpec)

/-- ITS FALSE NEIGHBOUR: 'it returns false'. Refute it at one input. -/
def fnExactDecodeWrong : ChangeSpec := { name := "fnExactDecode", fn := fun _ => fun
  | [d1, d2, d3] => { results := [.lit (.bool false)], args := [d1, d2, d3] }
  | _ => none }
def FnExactDecodeWrongFalsely : Prop := fnExactDecodeRow.holds Try.pinned (OpenSpec.ofChange fnExactDecodeWrong)

/-- 'laws.FnExactEncode': WHATEVER THE INPUT: true; the input reads as it did. -/
def fnExactEncodeSpec : ChangeSpec := { name := "fnExactEncode", fn := fun _ => fun
  | [d1, d2, d3] => { results := [.lit (.bool true)], args := [d1, d2, d3] }
  | _ => none }
def fnExactEncodeRow : OpenClaim := { program := "ytgkejafaggaocaa", sum := "80fd48711a2535319b4d9bd137f902b8e3dcb940d02393b9a66d1113a1c88878", func := "loop.example/g00051/laws.FnExactEncode", spec := "fnExactEncode", inPlace := ["math.Float64bits", "math.Float64frombits", "math.RoundToEven"], unfollowed := true, recurses := true, apart := false }
def FnExactEncodeSaid : Prop := fnExactEncodeRow.holds Try.pinned (OpenSpec.ofChange fnExactEncodeSpec)

/-- ITS FALSE NEIGHBOUR: 'it returns false'. Refute it at one input. -/
def fnExactEncodeWrong : ChangeSpec := { name := "fnExactEncode", fn := fun _ => fun
  | [d1, d2, d3] => { results := [.lit (.bool false)], args := [d1, d2, d3] }
  | _ => none }
def FnExactEncodeWrongFalsely : Prop := fnExactEncodeRow.holds Try.pinned (OpenSpec.ofChange fnExactEncodeWrong)

/-- 'laws.FnTablesBack': WHATEVER THE INPUT: true; the input reads as it did. -/
def fnTablesBackSpec : ChangeSpec := { name := "fnTablesBack", fn := fun _ => fun
  | [d] => { results := [.lit (.bool true)], args := [d] }
  | _ => none }
def fnTablesBackRow : OpenClaim := { program := "ytgkejafaggaocaa", sum := "80fd48711a2535319b4d9bd137f902b8e3dcb940d02393b9a66d1113a1c88878", func := "loop.example/g00051/laws.FnTablesBack", spec := "fnTablesBack", inPlace := ["math.Float64bits", "math.Float64frombits", "math.RoundToEven"], unfollowed := true, recurses := true, apart := false }
def FnTablesBackSaid : Prop := fnTablesBackRow.holds Try.pinned (OpenSpec.ofChange fnTablesBackSpec)

/-- ITS FALSE NEIGHBOUR: 'it returns false'. Refute it at one input. -/
def fnTablesBackWrong : ChangeSpec := { name := "fnTablesBack", fn := fun _ => fun
  | [d] => { results := [.lit (.bool false)], args := [d] }
  | _ => none }
def FnTablesBackWrongFalsely : Prop := fnTablesBackRow.holds Try.pinned (OpenSpec.ofChange fnTablesBackWrong)

/-- 'laws.FnTablesBits': WHATEVER THE INPUT: true; the input reads as it did. -/
def fnTablesBitsSpec : ChangeSpec := { name := "fnTablesBits", fn := fun _ => fun
  | [d] => { results := [.lit (.bool true)], args := [d] }
  | _ => none }
def fnTablesBitsRow : OpenClaim := { program := "ytgkejafaggaocaa", sum := "80fd48711a2535319b4d9bd137f902b8e3dcb940d02393b9a66d1113a1c88878", func := "loop.example/g00051/laws.FnTablesBits", spec := "fnTablesBits", inPlace := ["math.Float64frombits", "math.Float64bits", "math.RoundToEven"], unfollowed := true, recurses := true, apart := false }
def FnTablesBitsSaid : Prop := fnTablesBitsRow.holds Try.pinned (OpenSpec.ofChange fnTablesBitsSpec)

/-- ITS FALSE NEIGHBOUR: 'it returns false'. Refute it at one input. -/
def fnTablesBitsWrong : ChangeSpec := { name := "fnTablesBits", fn := fun _ => fun
  | [d] => { results := [.lit (.bool false)], args := [d] }
  | _ => none }
def FnTablesBitsWrongFalsely : Prop := fnTablesBitsRow.holds Try.pinned (OpenSpec.ofChange fnTablesBitsWrong)

/- THE SECOND FORM. 'bulk': how many values and letters a reading holds, each counted each time it is reached (what is shared counts as often as it is met; a slice's spare places count too). A statement '..UptoSaid' is the law's where the arguments, and the package variables that the reading takes, are together of bulk at most 1048576: NARROWER than '..Said'. Prove '..Said' where nothing that the law and all that it calls make is longer than what came in: it says more and counts as full. Else prove '..UptoSaid'. A law counts once. -/
mutual
def uptoBulk {H : Type} : DataW H → Nat
  | .lit (.string bytes) => bytes.length + 1
  | .lit _ => 1
  | .nil => 1
  | .ptr d => uptoBulk d + 1
  | .slice elems spare => uptoBulkAll elems + uptoBulkAll spare + 1
  | .agg parts => uptoBulkAll parts + 1
  | .iface _ d => uptoBulk d + 1
  | .map entries => uptoBulkEntries entries + 1
  | .held _ => 1
def uptoBulkAll {H : Type} : List (DataW H) → Nat
  | [] => 0
  | d :: r => uptoBulk d + uptoBulkAll r
def uptoBulkEntries {H : Type} : List (Lit × DataW H) → Nat
  | [] => 0
  | x :: r => uptoBulkEntry x + uptoBulkEntries r
def uptoBulkEntry {H : Type} : Lit × DataW H → Nat
  | (.string bytes, d) => bytes.length + uptoBulk d + 1
  | (_, d) => uptoBulk d + 1
 end
def uptoSmall : (H : Type) → List (DataW H) → Bool := fun _ ds => decide (uptoBulkAll ds ≤ 1048576)
def OpenSpec.upto (s : _root_.Go.ChangeSpec) : _root_.Go.OpenSpec := { _root_.Go.OpenSpec.ofChange s with cond := some uptoSmall }

/-- 'laws.FnExactSignif', WHERE WHAT IT READS IS OF BULK AT MOST 1048576: true; the input reads as it did. -/
def fnExactSignifUptoRow : OpenClaim := { program := "ytgkejafaggaocaa", sum := "80fd48711a2535319b4d9bd137f902b8e3dcb940d02393b9a66d1113a1c88878", func := "loop.example/g00051/laws.FnExactSignif", spec := "fnExactSignif", inPlace := ["math.Float64bits", "math.Float64frombits"], unfollowed := true, recurses := true, apart := false, narrowed := true }
def FnExactSignifUptoSaid : Prop := fnExactSignifUptoRow.holds Try.pinned (OpenSpec.upto fnExactSignifSpec)

/-- 'laws.FnFewer', WHERE WHAT IT READS IS OF BULK AT MOST 1048576: true; the input reads as it did. -/
def fnFewerUptoRow : OpenClaim := { program := "ytgkejafaggaocaa", sum := "80fd48711a2535319b4d9bd137f902b8e3dcb940d02393b9a66d1113a1c88878", func := "loop.example/g00051/laws.FnFewer", spec := "fnFewer", inPlace := ["math.Float64bits", "math.Float64frombits"], unfollowed := true, recurses := true, apart := false, narrowed := true }
def FnFewerUptoSaid : Prop := fnFewerUptoRow.holds Try.pinned (OpenSpec.upto fnFewerSpec)

/-- 'laws.FnSignificant', WHERE WHAT IT READS IS OF BULK AT MOST 1048576: true; the input reads as it did. -/
def fnSignificantUptoRow : OpenClaim := { program := "ytgkejafaggaocaa", sum := "80fd48711a2535319b4d9bd137f902b8e3dcb940d02393b9a66d1113a1c88878", func := "loop.example/g00051/laws.FnSignificant", spec := "fnSignificant", inPlace := ["math.Float64bits", "math.Float64frombits"], unfollowed := true, recurses := true, apart := false, narrowed := true }
def FnSignificantUptoSaid : Prop := fnSignificantUptoRow.holds Try.pinned (OpenSpec.upto fnSignificantSpec)

/-- 'laws.FnExactDecode', WHERE WHAT IT READS IS OF BULK AT MOST 1048576: true; the input reads as it did. -/
def fnExactDecodeUptoRow : OpenClaim := { program := "ytgkejafaggaocaa", sum := "80fd48711a2535319b4d9bd137f902b8e3dcb940d02393b9a66d1113a1c88878", func := "loop.example/g00051/laws.FnExactDecode", spec := "fnExactDecode", inPlace := ["math.Float64frombits"], unfollowed := true, recurses := true, apart := false, narrowed := true }
def FnExactDecodeUptoSaid : Prop := fnExactDecodeUptoRow.holds Try.pinned (OpenSpec.upto fnExactDecodeSpec)

/-- 'laws.FnExactEncode', WHERE WHAT IT READS IS OF BULK AT MOST 1048576: true; the input reads as it did. -/
def fnExactEncodeUptoRow : OpenClaim := { program := "ytgkejafaggaocaa", sum := "80fd48711a2535319b4d9bd137f902b8e3dcb940d02393b9a66d1113a1c88878", func := "loop.example/g00051/laws.FnExactEncode", spec := "fnExactEncode", inPlace := ["math.Float64bits", "math.Float64frombits", "math.RoundToEven"], unfollowed := true, recurses := true, apart := false, narrowed := true }
def FnExactEncodeUptoSaid : Prop := fnExactEncodeUptoRow.holds Try.pinned (OpenSpec.upto fnExactEncodeSpec)

/-- 'laws.FnTablesBack', WHERE WHAT IT READS IS OF BULK AT MOST 1048576: true; the input reads as it did. -/
def fnTablesBackUptoRow : OpenClaim := { program := "ytgkejafaggaocaa", sum := "80fd48711a2535319b4d9bd137f902b8e3dcb940d02393b9a66d1113a1c88878", func := "loop.example/g00051/laws.FnTablesBack", spec := "fnTablesBack", inPlace := ["math.Float64bits", "math.Float64frombits", "math.RoundToEven"], unfollowed := true, recurses := true, apart := false, narrowed := true }
def FnTablesBackUptoSaid : Prop := fnTablesBackUptoRow.holds Try.pinned (OpenSpec.upto fnTablesBackSpec)

/-- 'laws.FnTablesBits', WHERE WHAT IT READS IS OF BULK AT MOST 1048576: true; the input reads as it did. -/
def fnTablesBitsUptoRow : OpenClaim := { program := "ytgkejafaggaocaa", sum := "80fd48711a2535319b4d9bd137f902b8e3dcb940d02393b9a66d1113a1c88878", func := "loop.example/g00051/laws.FnTablesBits", spec := "fnTablesBits", inPlace := ["math.Float64frombits", "math.Float64bits", "math.RoundToEven"], unfollowed := true, recurses := true, apart := false, narrowed := true }
def FnTablesBitsUptoSaid : Prop := fnTablesBitsUptoRow.holds Try.pinned (OpenSpec.upto fnTablesBitsSpec)

end Rows
end Go.Proofs.Ytgkejafaggaocaa
