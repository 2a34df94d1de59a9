/- LinkWhole at a size that came in. -/
import Derived.Test.YtniiefcbiapieaaLinkWholeWalk
namespace Go.Proofs.Ytniiefcbiapieaa
open Go.RowKit

theorem linkWhole_walk (sz : Int) (A : Option Addr) (len cap : Nat) (w : World) (wf : (Lit.int .u8 sz).wf = true) (hrows : RowsIn w A len cap [.int .i64, .int .i64, .bool, .int .i64, .int .i64, .int .i64, .int .i64, .int .i64, .int .i64, .int .i64]) :
    Calls Try.prog 14 #[.int .u8 sz, .slice A len cap] w fun e w' => e = .returned (.bool true) ∧ Below w.heap.size w w' := by
  have h0 : 0 ≤ sz ∧ sz < 256 := by simp [Lit.wf, IntKind.min, IntKind.max, IntKind.signed, IntKind.bits] at wf; omega
  obtain ⟨k, rfl⟩ : ∃ k : Nat, sz = k := ⟨sz.toNat, by omega⟩
  exact linkWhole_nat k (by omega) A len cap w hrows
end Go.Proofs.Ytniiefcbiapieaa
