/-
  No cell of these rows narrows 'for every input' (looked for: loops, veiled, ifaces, maps, wideKeys, modest, calm, conditions, laid).
  DERIVED. THE GIVEN ROWS OF THIS SEAT. 15 by the template 'for every input the law returns true; each argument reads behind the call as it read before'; 0 by the template 'total and deterministic' (their statements: YtniiefcbiapieaaTotals.lean).
  GIVEN WITH THE SEED: the statements are not yours to turn. If you find one false, say at which input.
  Laid BY PROGRAM, IN A SANDBOX (cutbox-rows.mjs): the forced cells as the released guide's own fill.sh prints them over the translation 8cc21b02fe87fd94… (all of the seat's roots in one cut). By AI agents, Wed Nov 11 2026. No macro, syntax, notation, axiom, sorry.
-/
import Derived.Test.YtniiefcbiapieaaChecked
import GoSem.Claim
import GoSem.ClaimJoined
import GoSem.ClaimMapViews
import Derived.JoinedTies
import Derived.KernelRfl
namespace Go.Proofs.Ytniiefcbiapieaa
/- THE CELL 'sum', in the pinned program and in every row, IS THE sha256 OF THE DUMP (.gsa) THAT YtniiefcbiapieaaProg.lean LOADS. Nothing in Lean hashes anything: it is a label: what it is worth is what the hold of that sum in a sandbox is worth. -/
noncomputable def Try.pinned : Pinned := { name := "ytniiefcbiapieaa", sum := "8cc21b02fe87fd942c0f3d5054600a631f1041fd6bed0cf809063141cafaa1e8", checked := Try.checked }
namespace Rows
def none {H : Type} : Left H := { results := [], args := [] }

/-- 'parcloselaw18.PumpPlays': WHATEVER THE INPUT: true; the input reads as it did. -/
def pumpPlaysSpec : ChangeSpec := { name := "pumpPlays", fn := fun _ => fun
  | [d1, d2] => { results := [.lit (.bool true)], args := [d1, d2] }
  | _ => none }
def pumpPlaysRow : OpenClaim := { program := "ytniiefcbiapieaa", sum := "8cc21b02fe87fd942c0f3d5054600a631f1041fd6bed0cf809063141cafaa1e8", func := "parclose/parcloselaw18.PumpPlays", spec := "pumpPlays", plainKeys := false, apart := false }
def PumpPlaysSaid : Prop := pumpPlaysRow.holds Try.pinned (OpenSpec.ofChange pumpPlaysSpec)

/-- ITS FALSE NEIGHBOUR: 'it returns false'. Refute it at one input. -/
def pumpPlaysWrong : ChangeSpec := { name := "pumpPlays", fn := fun _ => fun
  | [d1, d2] => { results := [.lit (.bool false)], args := [d1, d2] }
  | _ => none }
def PumpPlaysWrongFalsely : Prop := pumpPlaysRow.holds Try.pinned (OpenSpec.ofChange pumpPlaysWrong)

/-- 'parcloselaw18.PumpOrder': WHATEVER THE INPUT: true; the input reads as it did. -/
def pumpOrderSpec : ChangeSpec := { name := "pumpOrder", fn := fun _ => fun
  | [d1, d2] => { results := [.lit (.bool true)], args := [d1, d2] }
  | _ => none }
def pumpOrderRow : OpenClaim := { program := "ytniiefcbiapieaa", sum := "8cc21b02fe87fd942c0f3d5054600a631f1041fd6bed0cf809063141cafaa1e8", func := "parclose/parcloselaw18.PumpOrder", spec := "pumpOrder", plainKeys := false, apart := false }
def PumpOrderSaid : Prop := pumpOrderRow.holds Try.pinned (OpenSpec.ofChange pumpOrderSpec)

/-- ITS FALSE NEIGHBOUR: 'it returns false'. Refute it at one input. -/
def pumpOrderWrong : ChangeSpec := { name := "pumpOrder", fn := fun _ => fun
  | [d1, d2] => { results := [.lit (.bool false)], args := [d1, d2] }
  | _ => none }
def PumpOrderWrongFalsely : Prop := pumpOrderRow.holds Try.pinned (OpenSpec.ofChange pumpOrderWrong)

/-- 'parcloselaw18.PumpKeeps': WHATEVER THE INPUT: true; the input reads as it did. -/
def pumpKeepsSpec : ChangeSpec := { name := "pumpKeeps", fn := fun _ => fun
  | [d1, d2, d3] => { results := [.lit (.bool true)], args := [d1, d2, d3] }
  | _ => none }
def pumpKeepsRow : OpenClaim := { program := "ytniiefcbiapieaa", sum := "8cc21b02fe87fd942c0f3d5054600a631f1041fd6bed0cf809063141cafaa1e8", func := "parclose/parcloselaw18.PumpKeeps", spec := "pumpKeeps", plainKeys := false, apart := false }
def PumpKeepsSaid : Prop := pumpKeepsRow.holds Try.pinned (OpenSpec.ofChange pumpKeepsSpec)

/-- ITS FALSE NEIGHBOUR: 'it returns false'. Refute it at one input. -/
def pumpKeepsWrong : ChangeSpec := { name := "pumpKeeps", fn := fun _ => fun
  | [d1, d2, d3] => { results := [.lit (.bool false)], args := [d1, d2, d3] }
  | _ => none }
def PumpKeepsWrongFalsely : Prop := pumpKeepsRow.holds Try.pinned (OpenSpec.ofChange pumpKeepsWrong)

/-- 'parcloselaw18.PumpQuiet': WHATEVER THE INPUT: true; the input reads as it did. -/
def pumpQuietSpec : ChangeSpec := { name := "pumpQuiet", fn := fun _ => fun
  | [d1, d2, d3, d4] => { results := [.lit (.bool true)], args := [d1, d2, d3, d4] }
  | _ => none }
def pumpQuietRow : OpenClaim := { program := "ytniiefcbiapieaa", sum := "8cc21b02fe87fd942c0f3d5054600a631f1041fd6bed0cf809063141cafaa1e8", func := "parclose/parcloselaw18.PumpQuiet", spec := "pumpQuiet", plainKeys := false, apart := false }
def PumpQuietSaid : Prop := pumpQuietRow.holds Try.pinned (OpenSpec.ofChange pumpQuietSpec)

/-- ITS FALSE NEIGHBOUR: 'it returns false'. Refute it at one input. -/
def pumpQuietWrong : ChangeSpec := { name := "pumpQuiet", fn := fun _ => fun
  | [d1, d2, d3, d4] => { results := [.lit (.bool false)], args := [d1, d2, d3, d4] }
  | _ => none }
def PumpQuietWrongFalsely : Prop := pumpQuietRow.holds Try.pinned (OpenSpec.ofChange pumpQuietWrong)

/-- 'parcloselaw18.PumpNone': WHATEVER THE INPUT: true; the input reads as it did. -/
def pumpNoneSpec : ChangeSpec := { name := "pumpNone", fn := fun _ => fun
  | [d] => { results := [.lit (.bool true)], args := [d] }
  | _ => none }
def pumpNoneRow : OpenClaim := { program := "ytniiefcbiapieaa", sum := "8cc21b02fe87fd942c0f3d5054600a631f1041fd6bed0cf809063141cafaa1e8", func := "parclose/parcloselaw18.PumpNone", spec := "pumpNone", plainKeys := false, apart := false }
def PumpNoneSaid : Prop := pumpNoneRow.holds Try.pinned (OpenSpec.ofChange pumpNoneSpec)

/-- ITS FALSE NEIGHBOUR: 'it returns false'. Refute it at one input. -/
def pumpNoneWrong : ChangeSpec := { name := "pumpNone", fn := fun _ => fun
  | [d] => { results := [.lit (.bool false)], args := [d] }
  | _ => none }
def PumpNoneWrongFalsely : Prop := pumpNoneRow.holds Try.pinned (OpenSpec.ofChange pumpNoneWrong)

/-- 'parcloselaw17.CellPlays': WHATEVER THE INPUT: true; the input reads as it did. -/
def cellPlaysSpec : ChangeSpec := { name := "cellPlays", fn := fun _ => fun
  | [d1, d2] => { results := [.lit (.bool true)], args := [d1, d2] }
  | _ => none }
def cellPlaysRow : OpenClaim := { program := "ytniiefcbiapieaa", sum := "8cc21b02fe87fd942c0f3d5054600a631f1041fd6bed0cf809063141cafaa1e8", func := "parclose/parcloselaw17.CellPlays", spec := "cellPlays", plainKeys := false, apart := false }
def CellPlaysSaid : Prop := cellPlaysRow.holds Try.pinned (OpenSpec.ofChange cellPlaysSpec)

/-- ITS FALSE NEIGHBOUR: 'it returns false'. Refute it at one input. -/
def cellPlaysWrong : ChangeSpec := { name := "cellPlays", fn := fun _ => fun
  | [d1, d2] => { results := [.lit (.bool false)], args := [d1, d2] }
  | _ => none }
def CellPlaysWrongFalsely : Prop := cellPlaysRow.holds Try.pinned (OpenSpec.ofChange cellPlaysWrong)

/-- 'parcloselaw17.CellReads': WHATEVER THE INPUT: true; the input reads as it did. -/
def cellReadsSpec : ChangeSpec := { name := "cellReads", fn := fun _ => fun
  | [d1, d2, d3] => { results := [.lit (.bool true)], args := [d1, d2, d3] }
  | _ => none }
def cellReadsRow : OpenClaim := { program := "ytniiefcbiapieaa", sum := "8cc21b02fe87fd942c0f3d5054600a631f1041fd6bed0cf809063141cafaa1e8", func := "parclose/parcloselaw17.CellReads", spec := "cellReads", plainKeys := false, apart := false }
def CellReadsSaid : Prop := cellReadsRow.holds Try.pinned (OpenSpec.ofChange cellReadsSpec)

/-- ITS FALSE NEIGHBOUR: 'it returns false'. Refute it at one input. -/
def cellReadsWrong : ChangeSpec := { name := "cellReads", fn := fun _ => fun
  | [d1, d2, d3] => { results := [.lit (.bool false)], args := [d1, d2, d3] }
  | _ => none }
def CellReadsWrongFalsely : Prop := cellReadsRow.holds Try.pinned (OpenSpec.ofChange cellReadsWrong)

/-- 'parcloselaw17.CellOne': WHATEVER THE INPUT: true; the input reads as it did. -/
def cellOneSpec : ChangeSpec := { name := "cellOne", fn := fun _ => fun
  | [d1, d2, d3] => { results := [.lit (.bool true)], args := [d1, d2, d3] }
  | _ => none }
def cellOneRow : OpenClaim := { program := "ytniiefcbiapieaa", sum := "8cc21b02fe87fd942c0f3d5054600a631f1041fd6bed0cf809063141cafaa1e8", func := "parclose/parcloselaw17.CellOne", spec := "cellOne", plainKeys := false, apart := false }
def CellOneSaid : Prop := cellOneRow.holds Try.pinned (OpenSpec.ofChange cellOneSpec)

/-- ITS FALSE NEIGHBOUR: 'it returns false'. Refute it at one input. -/
def cellOneWrong : ChangeSpec := { name := "cellOne", fn := fun _ => fun
  | [d1, d2, d3] => { results := [.lit (.bool false)], args := [d1, d2, d3] }
  | _ => none }
def CellOneWrongFalsely : Prop := cellOneRow.holds Try.pinned (OpenSpec.ofChange cellOneWrong)

/-- 'parcloselaw17.CellNone': WHATEVER THE INPUT: true; the input reads as it did. -/
def cellNoneSpec : ChangeSpec := { name := "cellNone", fn := fun _ => fun
  | [d1, d2, d3] => { results := [.lit (.bool true)], args := [d1, d2, d3] }
  | _ => none }
def cellNoneRow : OpenClaim := { program := "ytniiefcbiapieaa", sum := "8cc21b02fe87fd942c0f3d5054600a631f1041fd6bed0cf809063141cafaa1e8", func := "parclose/parcloselaw17.CellNone", spec := "cellNone", plainKeys := false, apart := false }
def CellNoneSaid : Prop := cellNoneRow.holds Try.pinned (OpenSpec.ofChange cellNoneSpec)

/-- ITS FALSE NEIGHBOUR: 'it returns false'. Refute it at one input. -/
def cellNoneWrong : ChangeSpec := { name := "cellNone", fn := fun _ => fun
  | [d1, d2, d3] => { results := [.lit (.bool false)], args := [d1, d2, d3] }
  | _ => none }
def CellNoneWrongFalsely : Prop := cellNoneRow.holds Try.pinned (OpenSpec.ofChange cellNoneWrong)

/-- 'parcloselaw23.LinkDenied': WHATEVER THE INPUT: true; the input reads as it did. -/
def linkDeniedSpec : ChangeSpec := { name := "linkDenied", fn := fun _ => fun
  | [d1, d2, d3] => { results := [.lit (.bool true)], args := [d1, d2, d3] }
  | _ => none }
def linkDeniedRow : OpenClaim := { program := "ytniiefcbiapieaa", sum := "8cc21b02fe87fd942c0f3d5054600a631f1041fd6bed0cf809063141cafaa1e8", func := "parclose/parcloselaw23.LinkDenied", spec := "linkDenied", plainKeys := false, apart := false }
def LinkDeniedSaid : Prop := linkDeniedRow.holds Try.pinned (OpenSpec.ofChange linkDeniedSpec)

/-- ITS FALSE NEIGHBOUR: 'it returns false'. Refute it at one input. -/
def linkDeniedWrong : ChangeSpec := { name := "linkDenied", fn := fun _ => fun
  | [d1, d2, d3] => { results := [.lit (.bool false)], args := [d1, d2, d3] }
  | _ => none }
def LinkDeniedWrongFalsely : Prop := linkDeniedRow.holds Try.pinned (OpenSpec.ofChange linkDeniedWrong)

/-- 'parcloselaw23.LinkQuiet': WHATEVER THE INPUT: true; the input reads as it did. -/
def linkQuietSpec : ChangeSpec := { name := "linkQuiet", fn := fun _ => fun
  | [d1, d2] => { results := [.lit (.bool true)], args := [d1, d2] }
  | _ => none }
def linkQuietRow : OpenClaim := { program := "ytniiefcbiapieaa", sum := "8cc21b02fe87fd942c0f3d5054600a631f1041fd6bed0cf809063141cafaa1e8", func := "parclose/parcloselaw23.LinkQuiet", spec := "linkQuiet", plainKeys := false, apart := false }
def LinkQuietSaid : Prop := linkQuietRow.holds Try.pinned (OpenSpec.ofChange linkQuietSpec)

/-- ITS FALSE NEIGHBOUR: 'it returns false'. Refute it at one input. -/
def linkQuietWrong : ChangeSpec := { name := "linkQuiet", fn := fun _ => fun
  | [d1, d2] => { results := [.lit (.bool false)], args := [d1, d2] }
  | _ => none }
def LinkQuietWrongFalsely : Prop := linkQuietRow.holds Try.pinned (OpenSpec.ofChange linkQuietWrong)

/-- 'parcloselaw23.LinkWhole': WHATEVER THE INPUT: true; the input reads as it did. -/
def linkWholeSpec : ChangeSpec := { name := "linkWhole", fn := fun _ => fun
  | [d1, d2] => { results := [.lit (.bool true)], args := [d1, d2] }
  | _ => none }
def linkWholeRow : OpenClaim := { program := "ytniiefcbiapieaa", sum := "8cc21b02fe87fd942c0f3d5054600a631f1041fd6bed0cf809063141cafaa1e8", func := "parclose/parcloselaw23.LinkWhole", spec := "linkWhole", plainKeys := false, apart := false }
def LinkWholeSaid : Prop := linkWholeRow.holds Try.pinned (OpenSpec.ofChange linkWholeSpec)

/-- ITS FALSE NEIGHBOUR: 'it returns false'. Refute it at one input. -/
def linkWholeWrong : ChangeSpec := { name := "linkWhole", fn := fun _ => fun
  | [d1, d2] => { results := [.lit (.bool false)], args := [d1, d2] }
  | _ => none }
def LinkWholeWrongFalsely : Prop := linkWholeRow.holds Try.pinned (OpenSpec.ofChange linkWholeWrong)

/-- 'parcloselaw23.LinkPumps': WHATEVER THE INPUT: true; the input reads as it did. -/
def linkPumpsSpec : ChangeSpec := { name := "linkPumps", fn := fun _ => fun
  | [d1, d2] => { results := [.lit (.bool true)], args := [d1, d2] }
  | _ => none }
def linkPumpsRow : OpenClaim := { program := "ytniiefcbiapieaa", sum := "8cc21b02fe87fd942c0f3d5054600a631f1041fd6bed0cf809063141cafaa1e8", func := "parclose/parcloselaw23.LinkPumps", spec := "linkPumps", plainKeys := false, apart := false }
def LinkPumpsSaid : Prop := linkPumpsRow.holds Try.pinned (OpenSpec.ofChange linkPumpsSpec)

/-- ITS FALSE NEIGHBOUR: 'it returns false'. Refute it at one input. -/
def linkPumpsWrong : ChangeSpec := { name := "linkPumps", fn := fun _ => fun
  | [d1, d2] => { results := [.lit (.bool false)], args := [d1, d2] }
  | _ => none }
def LinkPumpsWrongFalsely : Prop := linkPumpsRow.holds Try.pinned (OpenSpec.ofChange linkPumpsWrong)

/-- 'parcloselaw23.LinkPlays': WHATEVER THE INPUT: true; the input reads as it did. -/
def linkPlaysSpec : ChangeSpec := { name := "linkPlays", fn := fun _ => fun
  | [d1, d2] => { results := [.lit (.bool true)], args := [d1, d2] }
  | _ => none }
def linkPlaysRow : OpenClaim := { program := "ytniiefcbiapieaa", sum := "8cc21b02fe87fd942c0f3d5054600a631f1041fd6bed0cf809063141cafaa1e8", func := "parclose/parcloselaw23.LinkPlays", spec := "linkPlays", plainKeys := false, apart := false }
def LinkPlaysSaid : Prop := linkPlaysRow.holds Try.pinned (OpenSpec.ofChange linkPlaysSpec)

/-- ITS FALSE NEIGHBOUR: 'it returns false'. Refute it at one input. -/
def linkPlaysWrong : ChangeSpec := { name := "linkPlays", fn := fun _ => fun
  | [d1, d2] => { results := [.lit (.bool false)], args := [d1, d2] }
  | _ => none }
def LinkPlaysWrongFalsely : Prop := linkPlaysRow.holds Try.pinned (OpenSpec.ofChange linkPlaysWrong)

/-- 'parcloselaw23.LinkNone': WHATEVER THE INPUT: true; the input reads as it did. -/
def linkNoneSpec : ChangeSpec := { name := "linkNone", fn := fun _ => fun
  | [d1, d2, d3] => { results := [.lit (.bool true)], args := [d1, d2, d3] }
  | _ => none }
def linkNoneRow : OpenClaim := { program := "ytniiefcbiapieaa", sum := "8cc21b02fe87fd942c0f3d5054600a631f1041fd6bed0cf809063141cafaa1e8", func := "parclose/parcloselaw23.LinkNone", spec := "linkNone", plainKeys := false, apart := false }
def LinkNoneSaid : Prop := linkNoneRow.holds Try.pinned (OpenSpec.ofChange linkNoneSpec)

/-- ITS FALSE NEIGHBOUR: 'it returns false'. Refute it at one input. -/
def linkNoneWrong : ChangeSpec := { name := "linkNone", fn := fun _ => fun
  | [d1, d2, d3] => { results := [.lit (.bool false)], args := [d1, d2, d3] }
  | _ => none }
def LinkNoneWrongFalsely : Prop := linkNoneRow.holds Try.pinned (OpenSpec.ofChange linkNoneWrong)

/- THE SECOND FORM. 'bulk': how many values and letters a reading holds, each counted each time it is reached (what is shared counts as often as it is met; a slice's spare places count too). A statement '..UptoSaid' is the law's where the arguments, and the package variables that the reading takes, are together of bulk at most 1048576: NARROWER than '..Said'. Prove '..Said' where nothing that the law and all that it calls make is longer than what came in: it says more and counts as full. Else prove '..UptoSaid'. A law counts once. -/
mutual
def uptoBulk {H : Type} : DataW H → Nat
  | .lit (.string bytes) => bytes.length + 1
  | .lit _ => 1
  | .nil => 1
  | .ptr d => uptoBulk d + 1
  | .slice elems spare => uptoBulkAll elems + uptoBulkAll spare + 1
  | .agg parts => uptoBulkAll parts + 1
  | .iface _ d => uptoBulk d + 1
  | .map entries => uptoBulkEntries entries + 1
  | .held _ => 1
def uptoBulkAll {H : Type} : List (DataW H) → Nat
  | [] => 0
  | d :: r => uptoBulk d + uptoBulkAll r
def uptoBulkEntries {H : Type} : List (Lit × DataW H) → Nat
  | [] => 0
  | x :: r => uptoBulkEntry x + uptoBulkEntries r
def uptoBulkEntry {H : Type} : Lit × DataW H → Nat
  | (.string bytes, d) => bytes.length + uptoBulk d + 1
  | (_, d) => uptoBulk d + 1
 end
def uptoSmall : (H : Type) → List (DataW H) → Bool := fun _ ds => decide (uptoBulkAll ds ≤ 1048576)
def OpenSpec.upto (s : _root_.Go.ChangeSpec) : _root_.Go.OpenSpec := { _root_.Go.OpenSpec.ofChange s with cond := some uptoSmall }

/-- 'parcloselaw18.PumpPlays', WHERE WHAT IT READS IS OF BULK AT MOST 1048576: true; the input reads as it did. -/
def pumpPlaysUptoRow : OpenClaim := { program := "ytniiefcbiapieaa", sum := "8cc21b02fe87fd942c0f3d5054600a631f1041fd6bed0cf809063141cafaa1e8", func := "parclose/parcloselaw18.PumpPlays", spec := "pumpPlays", plainKeys := false, apart := false, narrowed := true }
def PumpPlaysUptoSaid : Prop := pumpPlaysUptoRow.holds Try.pinned (OpenSpec.upto pumpPlaysSpec)

/-- 'parcloselaw18.PumpOrder', WHERE WHAT IT READS IS OF BULK AT MOST 1048576: true; the input reads as it did. -/
def pumpOrderUptoRow : OpenClaim := { program := "ytniiefcbiapieaa", sum := "8cc21b02fe87fd942c0f3d5054600a631f1041fd6bed0cf809063141cafaa1e8", func := "parclose/parcloselaw18.PumpOrder", spec := "pumpOrder", plainKeys := false, apart := false, narrowed := true }
def PumpOrderUptoSaid : Prop := pumpOrderUptoRow.holds Try.pinned (OpenSpec.upto pumpOrderSpec)

/-- 'parcloselaw18.PumpKeeps', WHERE WHAT IT READS IS OF BULK AT MOST 1048576: true; the input reads as it did. -/
def pumpKeepsUptoRow : OpenClaim := { program := "ytniiefcbiapieaa", sum := "8cc21b02fe87fd942c0f3d5054600a631f1041fd6bed0cf809063141cafaa1e8", func := "parclose/parcloselaw18.PumpKeeps", spec := "pumpKeeps", plainKeys := false, apart := false, narrowed := true }
def PumpKeepsUptoSaid : Prop := pumpKeepsUptoRow.holds Try.pinned (OpenSpec.upto pumpKeepsSpec)

/-- 'parcloselaw18.PumpQuiet', WHERE WHAT IT READS IS OF BULK AT MOST 1048576: true; the input reads as it did. -/
def pumpQuietUptoRow : OpenClaim := { program := "ytniiefcbiapieaa", sum := "8cc21b02fe87fd942c0f3d5054600a631f1041fd6bed0cf809063141cafaa1e8", func := "parclose/parcloselaw18.PumpQuiet", spec := "pumpQuiet", plainKeys := false, apart := false, narrowed := true }
def PumpQuietUptoSaid : Prop := pumpQuietUptoRow.holds Try.pinned (OpenSpec.upto pumpQuietSpec)

/-- 'parcloselaw18.PumpNone', WHERE WHAT IT READS IS OF BULK AT MOST 1048576: true; the input reads as it did. -/
def pumpNoneUptoRow : OpenClaim := { program := "ytniiefcbiapieaa", sum := "8cc21b02fe87fd942c0f3d5054600a631f1041fd6bed0cf809063141cafaa1e8", func := "parclose/parcloselaw18.PumpNone", spec := "pumpNone", plainKeys := false, apart := false, narrowed := true }
def PumpNoneUptoSaid : Prop := pumpNoneUptoRow.holds Try.pinned (OpenSpec.upto pumpNoneSpec)

/-- 'parcloselaw17.CellPlays', WHERE WHAT IT READS IS OF BULK AT MOST 1048576: true; the input reads as it did. -/
def cellPlaysUptoRow : OpenClaim := { program := "ytniiefcbiapieaa", sum := "8cc21b02fe87fd942c0f3d5054600a631f1041fd6bed0cf809063141cafaa1e8", func := "parclose/parcloselaw17.CellPlays", spec := "cellPlays", plainKeys := false, apart := false, narrowed := true }
def CellPlaysUptoSaid : Prop := cellPlaysUptoRow.holds Try.pinned (OpenSpec.upto cellPlaysSpec)

/-- 'parcloselaw17.CellReads', WHERE WHAT IT READS IS OF BULK AT MOST 1048576: true; the input reads as it did. -/
def cellReadsUptoRow : OpenClaim := { program := "ytniiefcbiapieaa", sum := "8cc21b02fe87fd942c0f3d5054600a631f1041fd6bed0cf809063141cafaa1e8", func := "parclose/parcloselaw17.CellReads", spec := "cellReads", plainKeys := false, apart := false, narrowed := true }
def CellReadsUptoSaid : Prop := cellReadsUptoRow.holds Try.pinned (OpenSpec.upto cellReadsSpec)

/-- 'parcloselaw17.CellOne', WHERE WHAT IT READS IS OF BULK AT MOST 1048576: true; the input reads as it did. -/
def cellOneUptoRow : OpenClaim := { program := "ytniiefcbiapieaa", sum := "8cc21b02fe87fd942c0f3d5054600a631f1041fd6bed0cf809063141cafaa1e8", func := "parclose/parcloselaw17.CellOne", spec := "cellOne", plainKeys := false, apart := false, narrowed := true }
def CellOneUptoSaid : Prop := cellOneUptoRow.holds Try.pinned (OpenSpec.upto cellOneSpec)

/-- 'parcloselaw17.CellNone', WHERE WHAT IT READS IS OF BULK AT MOST 1048576: true; the input reads as it did. -/
def cellNoneUptoRow : OpenClaim := { program := "ytniiefcbiapieaa", sum := "8cc21b02fe87fd942c0f3d5054600a631f1041fd6bed0cf809063141cafaa1e8", func := "parclose/parcloselaw17.CellNone", spec := "cellNone", plainKeys := false, apart := false, narrowed := true }
def CellNoneUptoSaid : Prop := cellNoneUptoRow.holds Try.pinned (OpenSpec.upto cellNoneSpec)

/-- 'parcloselaw23.LinkDenied', WHERE WHAT IT READS IS OF BULK AT MOST 1048576: true; the input reads as it did. -/
def linkDeniedUptoRow : OpenClaim := { program := "ytniiefcbiapieaa", sum := "8cc21b02fe87fd942c0f3d5054600a631f1041fd6bed0cf809063141cafaa1e8", func := "parclose/parcloselaw23.LinkDenied", spec := "linkDenied", plainKeys := false, apart := false, narrowed := true }
def LinkDeniedUptoSaid : Prop := linkDeniedUptoRow.holds Try.pinned (OpenSpec.upto linkDeniedSpec)

/-- 'parcloselaw23.LinkQuiet', WHERE WHAT IT READS IS OF BULK AT MOST 1048576: true; the input reads as it did. -/
def linkQuietUptoRow : OpenClaim := { program := "ytniiefcbiapieaa", sum := "8cc21b02fe87fd942c0f3d5054600a631f1041fd6bed0cf809063141cafaa1e8", func := "parclose/parcloselaw23.LinkQuiet", spec := "linkQuiet", plainKeys := false, apart := false, narrowed := true }
def LinkQuietUptoSaid : Prop := linkQuietUptoRow.holds Try.pinned (OpenSpec.upto linkQuietSpec)

/-- 'parcloselaw23.LinkWhole', WHERE WHAT IT READS IS OF BULK AT MOST 1048576: true; the input reads as it did. -/
def linkWholeUptoRow : OpenClaim := { program := "ytniiefcbiapieaa", sum := "8cc21b02fe87fd942c0f3d5054600a631f1041fd6bed0cf809063141cafaa1e8", func := "parclose/parcloselaw23.LinkWhole", spec := "linkWhole", plainKeys := false, apart := false, narrowed := true }
def LinkWholeUptoSaid : Prop := linkWholeUptoRow.holds Try.pinned (OpenSpec.upto linkWholeSpec)

/-- 'parcloselaw23.LinkPumps', WHERE WHAT IT READS IS OF BULK AT MOST 1048576: true; the input reads as it did. -/
def linkPumpsUptoRow : OpenClaim := { program := "ytniiefcbiapieaa", sum := "8cc21b02fe87fd942c0f3d5054600a631f1041fd6bed0cf809063141cafaa1e8", func := "parclose/parcloselaw23.LinkPumps", spec := "linkPumps", plainKeys := false, apart := false, narrowed := true }
def LinkPumpsUptoSaid : Prop := linkPumpsUptoRow.holds Try.pinned (OpenSpec.upto linkPumpsSpec)

/-- 'parcloselaw23.LinkPlays', WHERE WHAT IT READS IS OF BULK AT MOST 1048576: true; the input reads as it did. -/
def linkPlaysUptoRow : OpenClaim := { program := "ytniiefcbiapieaa", sum := "8cc21b02fe87fd942c0f3d5054600a631f1041fd6bed0cf809063141cafaa1e8", func := "parclose/parcloselaw23.LinkPlays", spec := "linkPlays", plainKeys := false, apart := false, narrowed := true }
def LinkPlaysUptoSaid : Prop := linkPlaysUptoRow.holds Try.pinned (OpenSpec.upto linkPlaysSpec)

/-- 'parcloselaw23.LinkNone', WHERE WHAT IT READS IS OF BULK AT MOST 1048576: true; the input reads as it did. -/
def linkNoneUptoRow : OpenClaim := { program := "ytniiefcbiapieaa", sum := "8cc21b02fe87fd942c0f3d5054600a631f1041fd6bed0cf809063141cafaa1e8", func := "parclose/parcloselaw23.LinkNone", spec := "linkNone", plainKeys := false, apart := false, narrowed := true }
def LinkNoneUptoSaid : Prop := linkNoneUptoRow.holds Try.pinned (OpenSpec.upto linkNoneSpec)

end Rows
end Go.Proofs.Ytniiefcbiapieaa
