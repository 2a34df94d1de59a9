/- The fixed fact of the cell's laws; CellNone. -/
import Derived.Test.YtniiefcbiapieaaCel
namespace Go.Proofs.Ytniiefcbiapieaa
open Go.RowKit

set_option maxHeartbeats 1000000 in
theorem cellAwake (w : World) : Calls Try.prog 31 #[] w fun e w' => e = .returned (.bool true) ∧ Below w.heap.size w w' := by
  have hs := Own.start w
  go_enter Try.func31, Try.ntmps31
  go_wp2_with fail
  refine (cellNew_any hs 1 2).mono ?_
  rintro e w1 ⟨g, rfl, hs1⟩
  rw [show clampC 2 = 2 by decide] at hs1
  have ok0 : (CS.new 2).Ok := CS.Ok.new ⟨by omega, by omega⟩
  go_wp2_with fail
  refine (cellBegin_any hs1 (put_same _ _ _ _) ok0 1).mono ?_
  rintro e w2 ⟨rfl, hs2⟩
  have ok1 := ok0.begin 1 (by show 0 < 999; omega)
  rw [put_put] at hs2
  rw [show ans ((CS.new 2).beginE 1) = .returned (.int .i64 0) from rfl]
  go_wp2_with fail
  refine (cellPut_any hs2 (put_same _ _ _ _) ok1 1 0 7).mono ?_
  rintro e w3 ⟨rfl, hs3⟩
  have ok2 := ok1.put 1 0 7
  rw [put_put] at hs3
  rw [show ans (((CS.new 2).begin 1).putE 1 0) = .returned (.int .i64 0) from rfl]
  go_wp2_with fail
  refine (cellStart_any hs3 (put_same _ _ _ _) ok2).mono ?_
  rintro e w4 ⟨rfl, rfl⟩
  rw [show ans2 (((CS.new 2).begin 1).put 1 0 7).startN (((CS.new 2).begin 1).put 1 0 7).startE = .returned (.tuple #[.int .i64 0, .int .i64 17]) from rfl]
  go_wp2_with fail
  refine (cellWord_any hs3 (put_same _ _ _ _) ok2 0).mono ?_
  rintro e w4 ⟨rfl, rfl⟩
  rw [show ans2 ((((CS.new 2).begin 1).put 1 0 7).wordN 0) ((((CS.new 2).begin 1).put 1 0 7).wordE 0) = .returned (.tuple #[.int .i64 7, .int .i64 0]) from rfl]
  go_wp2_with fail
  refine (cellEnd_any hs3 (put_same _ _ _ _) ok2 1).mono ?_
  rintro e w5 ⟨rfl, hs5⟩
  have ok3 := ok2.end_ 1 (by show 1 < 999; omega)
  rw [put_put] at hs5
  rw [show ans ((((CS.new 2).begin 1).put 1 0 7).endE 1) = .returned (.int .i64 0) from rfl]
  go_wp2_with fail
  refine (cellStart_any hs5 (put_same _ _ _ _) ok3).mono ?_
  rintro e w6 ⟨rfl, rfl⟩
  rw [show ans2 ((((CS.new 2).begin 1).put 1 0 7).end_ 1).startN ((((CS.new 2).begin 1).put 1 0 7).end_ 1).startE = .returned (.tuple #[.int .i64 2, .int .i64 0]) from rfl]
  go_wp2_with fail
  refine (cellSame_any hs5 (put_same _ _ _ _) ok3 2).mono ?_
  rintro e w6 ⟨rfl, rfl⟩
  rw [show ans (((((CS.new 2).begin 1).put 1 0 7).end_ 1).sameE 2) = .returned (.int .i64 0) from rfl]
  go_wp2_with fail
  refine (cellSame_any hs5 (put_same _ _ _ _) ok3 0).mono ?_
  rintro e w6 ⟨rfl, rfl⟩
  rw [show ans (((((CS.new 2).begin 1).put 1 0 7).end_ 1).sameE 0) = .returned (.int .i64 17) from rfl]
  go_wp2_with fail
  refine (cellSize_any hs5 (put_same _ _ _ _) ok3).mono ?_
  rintro e w6 ⟨rfl, rfl⟩
  rw [show ans (((((CS.new 2).begin 1).put 1 0 7).end_ 1).s : Nat) = .returned (.int .i64 2) from rfl]
  go_wp2_with fail
  go_ret
  exact ⟨rfl, hs5.below⟩

theorem cellNone_walk (t i v : Int) (w : World) (_ : (Lit.int .i64 t).wf = true) (_ : (Lit.int .i64 i).wf = true) (_ : (Lit.int .i64 v).wf = true) :
    Calls Try.prog 11 #[.int .i64 t, .int .i64 i, .int .i64 v] w fun e w' => e = .returned (.bool true) ∧ Below w.heap.size w w' := by
  go_enter Try.func11, Try.ntmps11
  go_wp2_with fail
  refine (cellStart_nil _).mono ?_
  rintro e w1 ⟨rfl, rfl⟩
  rw [ans2_eq]
  go_wp2_with fail
  refine (cellWord_nil i _).mono ?_
  rintro e w1 ⟨rfl, rfl⟩
  rw [ans2_eq]
  go_wp2_with fail
  refine (cellAwake _).mono ?_
  rintro e w1 ⟨rfl, hb⟩
  go_wp2_with fail
  refine (cellBegin_nil t _).mono ?_
  rintro e w2 ⟨rfl, rfl⟩
  rw [ans_eq]
  go_wp2_with fail
  refine (cellPut_nil t i v _).mono ?_
  rintro e w2 ⟨rfl, rfl⟩
  rw [ans_eq]
  go_wp2_with fail
  refine (cellEnd_nil t _).mono ?_
  rintro e w2 ⟨rfl, rfl⟩
  rw [ans_eq]
  go_wp2_with fail
  refine (cellSame_nil v _).mono ?_
  rintro e w2 ⟨rfl, rfl⟩
  rw [ans_eq]
  go_wp2_with fail
  refine (cellWriter_nil _).mono ?_
  rintro e w2 ⟨rfl, rfl⟩
  rw [ans_eq]
  go_wp2_with fail
  refine (cellSize_nil _).mono ?_
  rintro e w2 ⟨rfl, rfl⟩
  rw [ans_eq]
  go_wp2_with fail
  go_ret
  exact ⟨rfl, hb⟩
end Go.Proofs.Ytniiefcbiapieaa
