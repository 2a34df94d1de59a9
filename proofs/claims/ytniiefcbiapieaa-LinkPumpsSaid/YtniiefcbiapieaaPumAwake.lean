/- The fixed fact of the pump's laws. -/
import Derived.Test.YtniiefcbiapieaaPum
namespace Go.Proofs.Ytniiefcbiapieaa
open Go.RowKit

set_option maxHeartbeats 400000 in
theorem pumpAwake (w : World) :
    Calls Try.prog 25 #[] w fun e w' => e = .returned (.bool true) ∧ Below w.heap.size w w' := by
  have hs := Own.start w
  go_enter Try.func25, Try.ntmps25
  go_wp2_with fail
  refine (new_any hs 0 2).mono ?_
  rintro e w1 ⟨g, rfl, hs1⟩
  rw [show clampN 8 2 = 2 by decide] at hs1
  go_wp2_with fail
  refine (send_any hs1 (put_same _ _ _ _) (by omega) (by omega) (by simp)).mono ?_
  rintro e w2 ⟨rfl, hs2⟩
  rw [put_put] at hs2
  go_wp2_with fail
  refine (send_any hs2 (put_same _ _ _ _) (by omega) (by omega) (by simp)).mono ?_
  rintro e w3 ⟨rfl, hs3⟩
  rw [put_put] at hs3
  go_wp2_with fail
  refine (send_any hs3 (put_same _ _ _ _) (by omega) (by omega) (by simp)).mono ?_
  rintro e w4 ⟨rfl, hs4⟩
  rw [put_put] at hs4
  go_wp2_with fail
  refine (recv_any hs4 (put_same _ _ _ _) (by omega) (by omega) (by simp)).mono ?_
  rintro e w5 ⟨rfl, hs5⟩
  rw [show rec4 (recvV 2 ([] ++ [7] ++ [8] ++ [9]) 0) (recvL 2 ([] ++ [7] ++ [8] ++ [9]) 0) (recvA 2 ([] ++ [7] ++ [8] ++ [9]) 0) (recvE ([] ++ [7] ++ [8] ++ [9]) 0) = .returned (.tuple #[.int .i64 8, .int .i64 1, .int .i64 2, .int .i64 0]) from rfl]
  go_wp2_with fail
  refine (recv_any hs5 (put_same _ _ _ _) (by omega) (by omega) (by simp)).mono ?_
  rintro e w6 ⟨rfl, hs6⟩
  rw [show rec4 (recvV 2 ([] ++ [7] ++ [8] ++ [9]) 2) (recvL 2 ([] ++ [7] ++ [8] ++ [9]) 2) (recvA 2 ([] ++ [7] ++ [8] ++ [9]) 2) (recvE ([] ++ [7] ++ [8] ++ [9]) 2) = .returned (.tuple #[.int .i64 9, .int .i64 0, .int .i64 3, .int .i64 0]) from rfl]
  go_wp2_with fail
  refine (recv_any hs6 (put_same _ _ _ _) (by omega) (by omega) (by simp)).mono ?_
  rintro e w7 ⟨rfl, hs7⟩
  rw [show rec4 (recvV 2 ([] ++ [7] ++ [8] ++ [9]) 3) (recvL 2 ([] ++ [7] ++ [8] ++ [9]) 3) (recvA 2 ([] ++ [7] ++ [8] ++ [9]) 3) (recvE ([] ++ [7] ++ [8] ++ [9]) 3) = .returned (.tuple #[.int .i64 0, .int .i64 0, .int .i64 3, .int .i64 18]) from rfl]
  go_wp2_with fail
  refine (total_any hs7 (put_same _ _ _ _)).mono ?_
  rintro e w8 ⟨rfl, rfl⟩
  rw [show (([] ++ [7] ++ [8] ++ [9] : List Int).length : Int) = 3 from rfl]
  go_wp2_with fail
  go_ret
  exact ⟨rfl, hs7.below⟩
end Go.Proofs.Ytniiefcbiapieaa
