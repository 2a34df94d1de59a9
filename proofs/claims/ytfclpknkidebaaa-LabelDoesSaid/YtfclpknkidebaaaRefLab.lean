/- The reference's Join and Meet. -/
import Derived.Test.YtfclpknkidebaaaPut
import Derived.Deep.RegionHeld3
namespace Go.Proofs.Ytfclpknkidebaaa
open Go.RowKit

theorem below4 {w : World} (a b c d : Obj) : Below w.heap.size w ((((w.alloc a).alloc b).alloc c).alloc d).drew :=
  ((below3 a b c).alloc (by simp; omega) d).drew

set_option maxHeartbeats 1000000 in
theorem refMeet_lt (la ca lb cb : Int) (w : World) (h : lb < la) :
    Calls Try.prog 15 #[lab la ca, lab lb cb] w fun e w' => e = .returned (lab lb (S (putN ca cb true))) ∧ Below w.heap.size w w' := by
  go_enter Try.func15, Try.ntmps15
  go_wp2
  go_region_held3 (fun w' => w'.cell? ⟨w.heap.size, 0, none⟩ = some (.int .i64 la) ∧ w'.cell? ⟨w.heap.size, 1, none⟩ = some (.int .i64 ca) ∧
      w'.cell? ⟨w.heap.size + 1, 0, none⟩ = some (.int .i64 lb) ∧ w'.cell? ⟨w.heap.size + 1, 1, none⟩ = some (.int .i64 cb)) (go_keep)
    (first | (go_at_call 19; refine (put_any _ _ _ _).mono ?_; rintro e w' ⟨rfl, rfl⟩))
  all_goals go_wp2
  all_goals exact bodyPost_ret (v := lab lb (S (putN ca cb true))) (by simp [results, Try.results15, go_sem]) rfl ⟨rfl, below4 _ _ _ _⟩

set_option maxHeartbeats 1000000 in
theorem refMeet_ge (la ca lb cb : Int) (w : World) (h : ¬ lb < la) :
    Calls Try.prog 15 #[lab la ca, lab lb cb] w fun e w' => e = .returned (lab la (S (putN ca cb true))) ∧ Below w.heap.size w w' := by
  go_enter Try.func15, Try.ntmps15
  go_wp2
  go_region_held3 (fun w' => w'.cell? ⟨w.heap.size, 0, none⟩ = some (.int .i64 la) ∧ w'.cell? ⟨w.heap.size, 1, none⟩ = some (.int .i64 ca) ∧
      w'.cell? ⟨w.heap.size + 1, 0, none⟩ = some (.int .i64 lb) ∧ w'.cell? ⟨w.heap.size + 1, 1, none⟩ = some (.int .i64 cb)) (go_keep)
    (first | (go_at_call 19; refine (put_any _ _ _ _).mono ?_; rintro e w' ⟨rfl, rfl⟩))
  all_goals go_wp2
  all_goals exact bodyPost_ret (v := lab la (S (putN ca cb true))) (by simp [results, Try.results15, go_sem]) rfl ⟨rfl, below4 _ _ _ _⟩

set_option maxHeartbeats 1000000 in
theorem refJoin_gt (la ca lb cb : Int) (w : World) (h : la < lb) :
    Calls Try.prog 14 #[lab la ca, lab lb cb] w fun e w' => e = .returned (lab lb (S (putN ca cb false))) ∧ Below w.heap.size w w' := by
  go_enter Try.func14, Try.ntmps14
  go_wp2
  go_region_held3 (fun w' => w'.cell? ⟨w.heap.size, 0, none⟩ = some (.int .i64 la) ∧ w'.cell? ⟨w.heap.size, 1, none⟩ = some (.int .i64 ca) ∧
      w'.cell? ⟨w.heap.size + 1, 0, none⟩ = some (.int .i64 lb) ∧ w'.cell? ⟨w.heap.size + 1, 1, none⟩ = some (.int .i64 cb)) (go_keep)
    (first | (go_at_call 19; refine (put_any _ _ _ _).mono ?_; rintro e w' ⟨rfl, rfl⟩))
  all_goals go_wp2
  all_goals exact bodyPost_ret (v := lab lb (S (putN ca cb false))) (by simp [results, Try.results14, go_sem]) rfl ⟨rfl, below4 _ _ _ _⟩

set_option maxHeartbeats 1000000 in
theorem refJoin_le (la ca lb cb : Int) (w : World) (h : ¬ la < lb) :
    Calls Try.prog 14 #[lab la ca, lab lb cb] w fun e w' => e = .returned (lab la (S (putN ca cb false))) ∧ Below w.heap.size w w' := by
  go_enter Try.func14, Try.ntmps14
  go_wp2
  go_region_held3 (fun w' => w'.cell? ⟨w.heap.size, 0, none⟩ = some (.int .i64 la) ∧ w'.cell? ⟨w.heap.size, 1, none⟩ = some (.int .i64 ca) ∧
      w'.cell? ⟨w.heap.size + 1, 0, none⟩ = some (.int .i64 lb) ∧ w'.cell? ⟨w.heap.size + 1, 1, none⟩ = some (.int .i64 cb)) (go_keep)
    (first | (go_at_call 19; refine (put_any _ _ _ _).mono ?_; rintro e w' ⟨rfl, rfl⟩))
  all_goals go_wp2
  all_goals exact bodyPost_ret (v := lab la (S (putN ca cb false))) (by simp [results, Try.results14, go_sem]) rfl ⟨rfl, below4 _ _ _ _⟩

theorem put_and (a b : Int) : S (putN a b true) = bits .and .i64 a b := by rw [and_i64]; rfl
theorem put_or (a b : Int) : S (putN a b false) = bits .or .i64 a b := by rw [or_i64]; rfl

theorem refJoin_any (la ca lb cb : Int) (w : World) :
    Calls Try.prog 14 #[lab la ca, lab lb cb] w fun e w' => e = .returned (lab (max la lb) (bits .or .i64 ca cb)) ∧ Below w.heap.size w w' := by
  rw [← put_or]
  by_cases h : la < lb
  · rw [show max la lb = lb by omega]; exact refJoin_gt la ca lb cb w h
  · rw [show max la lb = la by omega]; exact refJoin_le la ca lb cb w h
theorem refMeet_any (la ca lb cb : Int) (w : World) :
    Calls Try.prog 15 #[lab la ca, lab lb cb] w fun e w' => e = .returned (lab (min la lb) (bits .and .i64 ca cb)) ∧ Below w.heap.size w w' := by
  rw [← put_and]
  by_cases h : lb < la
  · rw [show min la lb = lb by omega]; exact refMeet_lt la ca lb cb w h
  · rw [show min la lb = la by omega]; exact refMeet_ge la ca lb cb w h
end Go.Proofs.Ytfclpknkidebaaa
