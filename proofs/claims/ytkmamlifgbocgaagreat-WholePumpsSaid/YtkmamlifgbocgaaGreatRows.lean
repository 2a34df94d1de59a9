/-
  No cell of these rows narrows 'for every input' (looked for: loops, veiled, ifaces, maps, wideKeys, modest, calm, conditions, laid).
  DERIVED. THE GIVEN ROWS OF THIS SEAT. 7 by the template 'for every input the law returns true; each argument reads behind the call as it read before'; 0 by the template 'total and deterministic' (their statements: YtkmamlifgbocgaaGreatTotals.lean).
  GIVEN WITH THE SEED: the statements are not yours to turn. If you find one false, say at which input.
  Laid BY PROGRAM, IN A SANDBOX (cutbox-rows.mjs): the forced cells as the released guide's own fill.sh prints them over the translation 22b853687ab5f329… (all of the seat's roots in one cut). By AI agents, Wed Nov 11 2026. No macro, syntax, notation, axiom, sorry.
-/
import Derived.Test.YtkmamlifgbocgaaGreatChecked
import GoSem.Claim
import GoSem.ClaimJoined
import GoSem.ClaimMapViews
import Derived.JoinedTies
import Derived.KernelRfl
namespace Go.Proofs.YtkmamlifgbocgaaGreat
/- THE CELL 'sum', in the pinned program and in every row, IS THE sha256 OF THE DUMP (.gsa) THAT YtkmamlifgbocgaaGreatProg.lean LOADS. Nothing in Lean hashes anything: it is a label: what it is worth is what the hold of that sum in a sandbox is worth. -/
noncomputable def Tryz.pinned : Pinned := { name := "ytkmamlifgbocgaagreat", sum := "22b853687ab5f329ac71d95a25c237d8277902c10546215f72aaef623d000108", checked := Tryz.checked }
namespace Rows
def none {H : Type} : Left H := { results := [], args := [] }

/-- 'parclosetop.WholeOrder': WHATEVER THE INPUT: true; the input reads as it did. -/
def wholeOrderSpec : ChangeSpec := { name := "wholeOrder", fn := fun _ => fun
  | [d1, d2, d3] => { results := [.lit (.bool true)], args := [d1, d2, d3] }
  | _ => none }
def wholeOrderRow : OpenClaim := { program := "ytkmamlifgbocgaagreat", sum := "22b853687ab5f329ac71d95a25c237d8277902c10546215f72aaef623d000108", func := "parclose/parclosetop.WholeOrder", spec := "wholeOrder", inPlace := ["internal/abi.NoEscape", "internal/bytealg.MakeNoZero"], unfollowed := true, recurses := true, plainKeys := false, apart := false }
def WholeOrderSaid : Prop := wholeOrderRow.holds Tryz.pinned (OpenSpec.ofChange wholeOrderSpec)

/-- ITS FALSE NEIGHBOUR: 'it returns false'. Refute it at one input. -/
def wholeOrderWrong : ChangeSpec := { name := "wholeOrder", fn := fun _ => fun
  | [d1, d2, d3] => { results := [.lit (.bool false)], args := [d1, d2, d3] }
  | _ => none }
def WholeOrderWrongFalsely : Prop := wholeOrderRow.holds Tryz.pinned (OpenSpec.ofChange wholeOrderWrong)

/-- 'parclosetop.WholeFresh': WHATEVER THE INPUT: true; the input reads as it did. -/
def wholeFreshSpec : ChangeSpec := { name := "wholeFresh", fn := fun _ => fun
  | [d1, d2, d3] => { results := [.lit (.bool true)], args := [d1, d2, d3] }
  | _ => none }
def wholeFreshRow : OpenClaim := { program := "ytkmamlifgbocgaagreat", sum := "22b853687ab5f329ac71d95a25c237d8277902c10546215f72aaef623d000108", func := "parclose/parclosetop.WholeFresh", spec := "wholeFresh", inPlace := ["internal/abi.NoEscape", "internal/bytealg.MakeNoZero"], unfollowed := true, recurses := true, plainKeys := false, apart := false }
def WholeFreshSaid : Prop := wholeFreshRow.holds Tryz.pinned (OpenSpec.ofChange wholeFreshSpec)

/-- ITS FALSE NEIGHBOUR: 'it returns false'. Refute it at one input. -/
def wholeFreshWrong : ChangeSpec := { name := "wholeFresh", fn := fun _ => fun
  | [d1, d2, d3] => { results := [.lit (.bool false)], args := [d1, d2, d3] }
  | _ => none }
def WholeFreshWrongFalsely : Prop := wholeFreshRow.holds Tryz.pinned (OpenSpec.ofChange wholeFreshWrong)

/-- 'parclosetop.WholePumps': WHATEVER THE INPUT: true; the input reads as it did. -/
def wholePumpsSpec : ChangeSpec := { name := "wholePumps", fn := fun _ => fun
  | [d1, d2, d3] => { results := [.lit (.bool true)], args := [d1, d2, d3] }
  | _ => none }
def wholePumpsRow : OpenClaim := { program := "ytkmamlifgbocgaagreat", sum := "22b853687ab5f329ac71d95a25c237d8277902c10546215f72aaef623d000108", func := "parclose/parclosetop.WholePumps", spec := "wholePumps", inPlace := ["internal/abi.NoEscape", "internal/bytealg.MakeNoZero"], unfollowed := true, recurses := true, plainKeys := false, apart := false }
def WholePumpsSaid : Prop := wholePumpsRow.holds Tryz.pinned (OpenSpec.ofChange wholePumpsSpec)

/-- ITS FALSE NEIGHBOUR: 'it returns false'. Refute it at one input. -/
def wholePumpsWrong : ChangeSpec := { name := "wholePumps", fn := fun _ => fun
  | [d1, d2, d3] => { results := [.lit (.bool false)], args := [d1, d2, d3] }
  | _ => none }
def WholePumpsWrongFalsely : Prop := wholePumpsRow.holds Tryz.pinned (OpenSpec.ofChange wholePumpsWrong)

/-- 'parclosetop.WholeClocks': WHATEVER THE INPUT: true; the input reads as it did. -/
def wholeClocksSpec : ChangeSpec := { name := "wholeClocks", fn := fun _ => fun
  | [d1, d2, d3] => { results := [.lit (.bool true)], args := [d1, d2, d3] }
  | _ => none }
def wholeClocksRow : OpenClaim := { program := "ytkmamlifgbocgaagreat", sum := "22b853687ab5f329ac71d95a25c237d8277902c10546215f72aaef623d000108", func := "parclose/parclosetop.WholeClocks", spec := "wholeClocks", inPlace := ["internal/abi.NoEscape", "internal/bytealg.MakeNoZero"], unfollowed := true, recurses := true, plainKeys := false, apart := false }
def WholeClocksSaid : Prop := wholeClocksRow.holds Tryz.pinned (OpenSpec.ofChange wholeClocksSpec)

/-- ITS FALSE NEIGHBOUR: 'it returns false'. Refute it at one input. -/
def wholeClocksWrong : ChangeSpec := { name := "wholeClocks", fn := fun _ => fun
  | [d1, d2, d3] => { results := [.lit (.bool false)], args := [d1, d2, d3] }
  | _ => none }
def WholeClocksWrongFalsely : Prop := wholeClocksRow.holds Tryz.pinned (OpenSpec.ofChange wholeClocksWrong)

/-- 'parclosetop.WholeShift': WHATEVER THE INPUT: true; the input reads as it did. -/
def wholeShiftSpec : ChangeSpec := { name := "wholeShift", fn := fun _ => fun
  | [d1, d2, d3] => { results := [.lit (.bool true)], args := [d1, d2, d3] }
  | _ => none }
def wholeShiftRow : OpenClaim := { program := "ytkmamlifgbocgaagreat", sum := "22b853687ab5f329ac71d95a25c237d8277902c10546215f72aaef623d000108", func := "parclose/parclosetop.WholeShift", spec := "wholeShift", inPlace := ["internal/abi.NoEscape", "internal/bytealg.MakeNoZero"], unfollowed := true, recurses := true, plainKeys := false, apart := false }
def WholeShiftSaid : Prop := wholeShiftRow.holds Tryz.pinned (OpenSpec.ofChange wholeShiftSpec)

/-- ITS FALSE NEIGHBOUR: 'it returns false'. Refute it at one input. -/
def wholeShiftWrong : ChangeSpec := { name := "wholeShift", fn := fun _ => fun
  | [d1, d2, d3] => { results := [.lit (.bool false)], args := [d1, d2, d3] }
  | _ => none }
def WholeShiftWrongFalsely : Prop := wholeShiftRow.holds Tryz.pinned (OpenSpec.ofChange wholeShiftWrong)

/-- 'parclosetop.WholeAgain': WHATEVER THE INPUT: true; the input reads as it did. -/
def wholeAgainSpec : ChangeSpec := { name := "wholeAgain", fn := fun _ => fun
  | [d1, d2, d3] => { results := [.lit (.bool true)], args := [d1, d2, d3] }
  | _ => none }
def wholeAgainRow : OpenClaim := { program := "ytkmamlifgbocgaagreat", sum := "22b853687ab5f329ac71d95a25c237d8277902c10546215f72aaef623d000108", func := "parclose/parclosetop.WholeAgain", spec := "wholeAgain", inPlace := ["internal/abi.NoEscape", "internal/bytealg.MakeNoZero"], unfollowed := true, recurses := true, plainKeys := false, apart := false }
def WholeAgainSaid : Prop := wholeAgainRow.holds Tryz.pinned (OpenSpec.ofChange wholeAgainSpec)

/-- ITS FALSE NEIGHBOUR: 'it returns false'. Refute it at one input. -/
def wholeAgainWrong : ChangeSpec := { name := "wholeAgain", fn := fun _ => fun
  | [d1, d2, d3] => { results := [.lit (.bool false)], args := [d1, d2, d3] }
  | _ => none }
def WholeAgainWrongFalsely : Prop := wholeAgainRow.holds Tryz.pinned (OpenSpec.ofChange wholeAgainWrong)

/-- 'parclosetop.WholeLabels': WHATEVER THE INPUT: true; the input reads as it did. -/
def wholeLabelsSpec : ChangeSpec := { name := "wholeLabels", fn := fun _ => fun
  | [d1, d2, d3, d4] => { results := [.lit (.bool true)], args := [d1, d2, d3, d4] }
  | _ => none }
def wholeLabelsRow : OpenClaim := { program := "ytkmamlifgbocgaagreat", sum := "22b853687ab5f329ac71d95a25c237d8277902c10546215f72aaef623d000108", func := "parclose/parclosetop.WholeLabels", spec := "wholeLabels", inPlace := ["internal/abi.NoEscape", "internal/bytealg.MakeNoZero"], unfollowed := true, recurses := true, plainKeys := false, apart := false }
def WholeLabelsSaid : Prop := wholeLabelsRow.holds Tryz.pinned (OpenSpec.ofChange wholeLabelsSpec)

/-- ITS FALSE NEIGHBOUR: 'it returns false'. Refute it at one input. -/
def wholeLabelsWrong : ChangeSpec := { name := "wholeLabels", fn := fun _ => fun
  | [d1, d2, d3, d4] => { results := [.lit (.bool false)], args := [d1, d2, d3, d4] }
  | _ => none }
def WholeLabelsWrongFalsely : Prop := wholeLabelsRow.holds Tryz.pinned (OpenSpec.ofChange wholeLabelsWrong)

/- THE SECOND FORM. 'bulk': how many values and letters a reading holds, each counted each time it is reached (what is shared counts as often as it is met; a slice's spare places count too). A statement '..UptoSaid' is the law's where the arguments, and the package variables that the reading takes, are together of bulk at most 1048576: NARROWER than '..Said'. Prove '..Said' where nothing that the law and all that it calls make is longer than what came in: it says more and counts as full. Else prove '..UptoSaid'. A law counts once. -/
mutual
def uptoBulk {H : Type} : DataW H → Nat
  | .lit (.string bytes) => bytes.length + 1
  | .lit _ => 1
  | .nil => 1
  | .ptr d => uptoBulk d + 1
  | .slice elems spare => uptoBulkAll elems + uptoBulkAll spare + 1
  | .agg parts => uptoBulkAll parts + 1
  | .iface _ d => uptoBulk d + 1
  | .map entries => uptoBulkEntries entries + 1
  | .held _ => 1
def uptoBulkAll {H : Type} : List (DataW H) → Nat
  | [] => 0
  | d :: r => uptoBulk d + uptoBulkAll r
def uptoBulkEntries {H : Type} : List (Lit × DataW H) → Nat
  | [] => 0
  | x :: r => uptoBulkEntry x + uptoBulkEntries r
def uptoBulkEntry {H : Type} : Lit × DataW H → Nat
  | (.string bytes, d) => bytes.length + uptoBulk d + 1
  | (_, d) => uptoBulk d + 1
 end
def uptoSmall : (H : Type) → List (DataW H) → Bool := fun _ ds => decide (uptoBulkAll ds ≤ 1048576)
def OpenSpec.upto (s : _root_.Go.ChangeSpec) : _root_.Go.OpenSpec := { _root_.Go.OpenSpec.ofChange s with cond := some uptoSmall }

/-- 'parclosetop.WholeOrder', WHERE WHAT IT READS IS OF BULK AT MOST 1048576: true; the input reads as it did. -/
def wholeOrderUptoRow : OpenClaim := { program := "ytkmamlifgbocgaagreat", sum := "22b853687ab5f329ac71d95a25c237d8277902c10546215f72aaef623d000108", func := "parclose/parclosetop.WholeOrder", spec := "wholeOrder", inPlace := ["internal/abi.NoEscape", "internal/bytealg.MakeNoZero"], unfollowed := true, recurses := true, plainKeys := false, apart := false, narrowed := true }
def WholeOrderUptoSaid : Prop := wholeOrderUptoRow.holds Tryz.pinned (OpenSpec.upto wholeOrderSpec)

/-- 'parclosetop.WholeFresh', WHERE WHAT IT READS IS OF BULK AT MOST 1048576: true; the input reads as it did. -/
def wholeFreshUptoRow : OpenClaim := { program := "ytkmamlifgbocgaagreat", sum := "22b853687ab5f329ac71d95a25c237d8277902c10546215f72aaef623d000108", func := "parclose/parclosetop.WholeFresh", spec := "wholeFresh", inPlace := ["internal/abi.NoEscape", "internal/bytealg.MakeNoZero"], unfollowed := true, recurses := true, plainKeys := false, apart := false, narrowed := true }
def WholeFreshUptoSaid : Prop := wholeFreshUptoRow.holds Tryz.pinned (OpenSpec.upto wholeFreshSpec)

/-- 'parclosetop.WholePumps', WHERE WHAT IT READS IS OF BULK AT MOST 1048576: true; the input reads as it did. -/
def wholePumpsUptoRow : OpenClaim := { program := "ytkmamlifgbocgaagreat", sum := "22b853687ab5f329ac71d95a25c237d8277902c10546215f72aaef623d000108", func := "parclose/parclosetop.WholePumps", spec := "wholePumps", inPlace := ["internal/abi.NoEscape", "internal/bytealg.MakeNoZero"], unfollowed := true, recurses := true, plainKeys := false, apart := false, narrowed := true }
def WholePumpsUptoSaid : Prop := wholePumpsUptoRow.holds Tryz.pinned (OpenSpec.upto wholePumpsSpec)

/-- 'parclosetop.WholeClocks', WHERE WHAT IT READS IS OF BULK AT MOST 1048576: true; the input reads as it did. -/
def wholeClocksUptoRow : OpenClaim := { program := "ytkmamlifgbocgaagreat", sum := "22b853687ab5f329ac71d95a25c237d8277902c10546215f72aaef623d000108", func := "parclose/parclosetop.WholeClocks", spec := "wholeClocks", inPlace := ["internal/abi.NoEscape", "internal/bytealg.MakeNoZero"], unfollowed := true, recurses := true, plainKeys := false, apart := false, narrowed := true }
def WholeClocksUptoSaid : Prop := wholeClocksUptoRow.holds Tryz.pinned (OpenSpec.upto wholeClocksSpec)

/-- 'parclosetop.WholeShift', WHERE WHAT IT READS IS OF BULK AT MOST 1048576: true; the input reads as it did. -/
def wholeShiftUptoRow : OpenClaim := { program := "ytkmamlifgbocgaagreat", sum := "22b853687ab5f329ac71d95a25c237d8277902c10546215f72aaef623d000108", func := "parclose/parclosetop.WholeShift", spec := "wholeShift", inPlace := ["internal/abi.NoEscape", "internal/bytealg.MakeNoZero"], unfollowed := true, recurses := true, plainKeys := false, apart := false, narrowed := true }
def WholeShiftUptoSaid : Prop := wholeShiftUptoRow.holds Tryz.pinned (OpenSpec.upto wholeShiftSpec)

/-- 'parclosetop.WholeAgain', WHERE WHAT IT READS IS OF BULK AT MOST 1048576: true; the input reads as it did. -/
def wholeAgainUptoRow : OpenClaim := { program := "ytkmamlifgbocgaagreat", sum := "22b853687ab5f329ac71d95a25c237d8277902c10546215f72aaef623d000108", func := "parclose/parclosetop.WholeAgain", spec := "wholeAgain", inPlace := ["internal/abi.NoEscape", "internal/bytealg.MakeNoZero"], unfollowed := true, recurses := true, plainKeys := false, apart := false, narrowed := true }
def WholeAgainUptoSaid : Prop := wholeAgainUptoRow.holds Tryz.pinned (OpenSpec.upto wholeAgainSpec)

/-- 'parclosetop.WholeLabels', WHERE WHAT IT READS IS OF BULK AT MOST 1048576: true; the input reads as it did. -/
def wholeLabelsUptoRow : OpenClaim := { program := "ytkmamlifgbocgaagreat", sum := "22b853687ab5f329ac71d95a25c237d8277902c10546215f72aaef623d000108", func := "parclose/parclosetop.WholeLabels", spec := "wholeLabels", inPlace := ["internal/abi.NoEscape", "internal/bytealg.MakeNoZero"], unfollowed := true, recurses := true, plainKeys := false, apart := false, narrowed := true }
def WholeLabelsUptoSaid : Prop := wholeLabelsUptoRow.holds Tryz.pinned (OpenSpec.upto wholeLabelsSpec)

end Rows
end Go.Proofs.YtkmamlifgbocgaaGreat
