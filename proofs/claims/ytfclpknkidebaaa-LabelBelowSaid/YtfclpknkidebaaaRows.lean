/-
  No cell of these rows narrows 'for every input' (looked for: loops, veiled, ifaces, maps, wideKeys, modest, calm, conditions, laid).
  DERIVED. THE GIVEN ROWS OF THIS SEAT. 4 by the template 'for every input the law returns true; each argument reads behind the call as it read before'; 0 by the template 'total and deterministic' (their statements: YtfclpknkidebaaaTotals.lean).
  GIVEN WITH THE SEED: the statements are not yours to turn. If you find one false, say at which input.
  Laid BY PROGRAM, IN A SANDBOX (cutbox-rows.mjs): the forced cells as the released guide's own fill.sh prints them over the translation 6ea1464b3d174f74… (all of the seat's roots in one cut). By AI agents, Wed Nov 11 2026. No macro, syntax, notation, axiom, sorry.
-/
import Derived.Test.YtfclpknkidebaaaChecked
import GoSem.Claim
import GoSem.ClaimJoined
import GoSem.ClaimMapViews
import Derived.JoinedTies
import Derived.KernelRfl
namespace Go.Proofs.Ytfclpknkidebaaa
/- THE CELL 'sum', in the pinned program and in every row, IS THE sha256 OF THE DUMP (.gsa) THAT YtfclpknkidebaaaProg.lean LOADS. Nothing in Lean hashes anything: it is a label: what it is worth is what the hold of that sum in a sandbox is worth. -/
noncomputable def Try.pinned : Pinned := { name := "ytfclpknkidebaaa", sum := "6ea1464b3d174f74889c2342ec66b2096a971e92a5a1ba6b5308b78bcf399742", checked := Try.checked }
namespace Rows
def none {H : Type} : Left H := { results := [], args := [] }

/-- 'parcloselaw01.LabelOrder': WHATEVER THE INPUT: true; the input reads as it did. -/
def labelOrderSpec : ChangeSpec := { name := "labelOrder", fn := fun _ => fun
  | [d1, d2, d3] => { results := [.lit (.bool true)], args := [d1, d2, d3] }
  | _ => none }
def labelOrderRow : OpenClaim := { program := "ytfclpknkidebaaa", sum := "6ea1464b3d174f74889c2342ec66b2096a971e92a5a1ba6b5308b78bcf399742", func := "parclose/parcloselaw01.LabelOrder", spec := "labelOrder", apart := false }
def LabelOrderSaid : Prop := labelOrderRow.holds Try.pinned (OpenSpec.ofChange labelOrderSpec)

/-- ITS FALSE NEIGHBOUR: 'it returns false'. Refute it at one input. -/
def labelOrderWrong : ChangeSpec := { name := "labelOrder", fn := fun _ => fun
  | [d1, d2, d3] => { results := [.lit (.bool false)], args := [d1, d2, d3] }
  | _ => none }
def LabelOrderWrongFalsely : Prop := labelOrderRow.holds Try.pinned (OpenSpec.ofChange labelOrderWrong)

/-- 'parcloselaw01.LabelLattice': WHATEVER THE INPUT: true; the input reads as it did. -/
def labelLatticeSpec : ChangeSpec := { name := "labelLattice", fn := fun _ => fun
  | [d1, d2, d3] => { results := [.lit (.bool true)], args := [d1, d2, d3] }
  | _ => none }
def labelLatticeRow : OpenClaim := { program := "ytfclpknkidebaaa", sum := "6ea1464b3d174f74889c2342ec66b2096a971e92a5a1ba6b5308b78bcf399742", func := "parclose/parcloselaw01.LabelLattice", spec := "labelLattice", apart := false }
def LabelLatticeSaid : Prop := labelLatticeRow.holds Try.pinned (OpenSpec.ofChange labelLatticeSpec)

/-- ITS FALSE NEIGHBOUR: 'it returns false'. Refute it at one input. -/
def labelLatticeWrong : ChangeSpec := { name := "labelLattice", fn := fun _ => fun
  | [d1, d2, d3] => { results := [.lit (.bool false)], args := [d1, d2, d3] }
  | _ => none }
def LabelLatticeWrongFalsely : Prop := labelLatticeRow.holds Try.pinned (OpenSpec.ofChange labelLatticeWrong)

/-- 'parcloselaw01.LabelDoes': WHATEVER THE INPUT: true; the input reads as it did. -/
def labelDoesSpec : ChangeSpec := { name := "labelDoes", fn := fun _ => fun
  | [d1, d2] => { results := [.lit (.bool true)], args := [d1, d2] }
  | _ => none }
def labelDoesRow : OpenClaim := { program := "ytfclpknkidebaaa", sum := "6ea1464b3d174f74889c2342ec66b2096a971e92a5a1ba6b5308b78bcf399742", func := "parclose/parcloselaw01.LabelDoes", spec := "labelDoes", apart := false }
def LabelDoesSaid : Prop := labelDoesRow.holds Try.pinned (OpenSpec.ofChange labelDoesSpec)

/-- ITS FALSE NEIGHBOUR: 'it returns false'. Refute it at one input. -/
def labelDoesWrong : ChangeSpec := { name := "labelDoes", fn := fun _ => fun
  | [d1, d2] => { results := [.lit (.bool false)], args := [d1, d2] }
  | _ => none }
def LabelDoesWrongFalsely : Prop := labelDoesRow.holds Try.pinned (OpenSpec.ofChange labelDoesWrong)

/-- 'parcloselaw01.LabelBelow': WHATEVER THE INPUT: true; the input reads as it did. -/
def labelBelowSpec : ChangeSpec := { name := "labelBelow", fn := fun _ => fun
  | [d1, d2, d3] => { results := [.lit (.bool true)], args := [d1, d2, d3] }
  | _ => none }
def labelBelowRow : OpenClaim := { program := "ytfclpknkidebaaa", sum := "6ea1464b3d174f74889c2342ec66b2096a971e92a5a1ba6b5308b78bcf399742", func := "parclose/parcloselaw01.LabelBelow", spec := "labelBelow", apart := false }
def LabelBelowSaid : Prop := labelBelowRow.holds Try.pinned (OpenSpec.ofChange labelBelowSpec)

/-- ITS FALSE NEIGHBOUR: 'it returns false'. Refute it at one input. -/
def labelBelowWrong : ChangeSpec := { name := "labelBelow", fn := fun _ => fun
  | [d1, d2, d3] => { results := [.lit (.bool false)], args := [d1, d2, d3] }
  | _ => none }
def LabelBelowWrongFalsely : Prop := labelBelowRow.holds Try.pinned (OpenSpec.ofChange labelBelowWrong)

/- THE SECOND FORM. 'bulk': how many values and letters a reading holds, each counted each time it is reached (what is shared counts as often as it is met; a slice's spare places count too). A statement '..UptoSaid' is the law's where the arguments, and the package variables that the reading takes, are together of bulk at most 1048576: NARROWER than '..Said'. Prove '..Said' where nothing that the law and all that it calls make is longer than what came in: it says more and counts as full. Else prove '..UptoSaid'. A law counts once. -/
mutual
def uptoBulk {H : Type} : DataW H → Nat
  | .lit (.string bytes) => bytes.length + 1
  | .lit _ => 1
  | .nil => 1
  | .ptr d => uptoBulk d + 1
  | .slice elems spare => uptoBulkAll elems + uptoBulkAll spare + 1
  | .agg parts => uptoBulkAll parts + 1
  | .iface _ d => uptoBulk d + 1
  | .map entries => uptoBulkEntries entries + 1
  | .held _ => 1
def uptoBulkAll {H : Type} : List (DataW H) → Nat
  | [] => 0
  | d :: r => uptoBulk d + uptoBulkAll r
def uptoBulkEntries {H : Type} : List (Lit × DataW H) → Nat
  | [] => 0
  | x :: r => uptoBulkEntry x + uptoBulkEntries r
def uptoBulkEntry {H : Type} : Lit × DataW H → Nat
  | (.string bytes, d) => bytes.length + uptoBulk d + 1
  | (_, d) => uptoBulk d + 1
 end
def uptoSmall : (H : Type) → List (DataW H) → Bool := fun _ ds => decide (uptoBulkAll ds ≤ 1048576)
def OpenSpec.upto (s : _root_.Go.ChangeSpec) : _root_.Go.OpenSpec := { _root_.Go.OpenSpec.ofChange s with cond := some uptoSmall }

/-- 'parcloselaw01.LabelOrder', WHERE WHAT IT READS IS OF BULK AT MOST 1048576: true; the input reads as it did. -/
def labelOrderUptoRow : OpenClaim := { program := "ytfclpknkidebaaa", sum := "6ea1464b3d174f74889c2342ec66b2096a971e92a5a1ba6b5308b78bcf399742", func := "parclose/parcloselaw01.LabelOrder", spec := "labelOrder", apart := false, narrowed := true }
def LabelOrderUptoSaid : Prop := labelOrderUptoRow.holds Try.pinned (OpenSpec.upto labelOrderSpec)

/-- 'parcloselaw01.LabelLattice', WHERE WHAT IT READS IS OF BULK AT MOST 1048576: true; the input reads as it did. -/
def labelLatticeUptoRow : OpenClaim := { program := "ytfclpknkidebaaa", sum := "6ea1464b3d174f74889c2342ec66b2096a971e92a5a1ba6b5308b78bcf399742", func := "parclose/parcloselaw01.LabelLattice", spec := "labelLattice", apart := false, narrowed := true }
def LabelLatticeUptoSaid : Prop := labelLatticeUptoRow.holds Try.pinned (OpenSpec.upto labelLatticeSpec)

/-- 'parcloselaw01.LabelDoes', WHERE WHAT IT READS IS OF BULK AT MOST 1048576: true; the input reads as it did. -/
def labelDoesUptoRow : OpenClaim := { program := "ytfclpknkidebaaa", sum := "6ea1464b3d174f74889c2342ec66b2096a971e92a5a1ba6b5308b78bcf399742", func := "parclose/parcloselaw01.LabelDoes", spec := "labelDoes", apart := false, narrowed := true }
def LabelDoesUptoSaid : Prop := labelDoesUptoRow.holds Try.pinned (OpenSpec.upto labelDoesSpec)

/-- 'parcloselaw01.LabelBelow', WHERE WHAT IT READS IS OF BULK AT MOST 1048576: true; the input reads as it did. -/
def labelBelowUptoRow : OpenClaim := { program := "ytfclpknkidebaaa", sum := "6ea1464b3d174f74889c2342ec66b2096a971e92a5a1ba6b5308b78bcf399742", func := "parclose/parcloselaw01.LabelBelow", spec := "labelBelow", apart := false, narrowed := true }
def LabelBelowUptoSaid : Prop := labelBelowUptoRow.holds Try.pinned (OpenSpec.upto labelBelowSpec)

end Rows
end Go.Proofs.Ytfclpknkidebaaa
