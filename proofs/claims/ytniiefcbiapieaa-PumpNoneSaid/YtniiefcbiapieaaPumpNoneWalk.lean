/- The walk of PumpNone. -/
import Derived.Test.YtniiefcbiapieaaPumpAwake
namespace Go.Proofs.Ytniiefcbiapieaa
open Go.RowKit

theorem pumpNone_walk (a : Int) (w : World) (wa : (Lit.int .i64 a).wf = true) :
    Calls Try.prog 7 #[.int .i64 a] w fun e w' => e = .returned (.bool true) ∧ Below w.heap.size w w' := by
  go_enter Try.func7, Try.ntmps7
  go_wp2_with fail
  refine (recv_nil _ _).mono ?_
  rintro e w1 ⟨rfl, hb1⟩
  have hs1 := (Sep.start w).below' hb1
  rw [show rec4 0 0 0 1 = .returned (.tuple #[.int .i64 0, .int .i64 0, .int .i64 0, .int .i64 1]) from rfl]
  go_wp2_with fail
  refine (pumpAwake hs1).mono ?_
  rintro e w2 ⟨rfl, hs2⟩
  go_wp2_with fail
  refine (send_nil _ _).mono ?_
  rintro e w3 ⟨rfl, rfl⟩
  go_wp2_with fail
  refine (total_nil _).mono ?_
  rintro e w3 ⟨rfl, rfl⟩
  go_wp2_with fail
  go_ret
  exact ⟨rfl, hs2.below⟩
end Go.Proofs.Ytniiefcbiapieaa
