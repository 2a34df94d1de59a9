/- The fixed fact of the labels' laws. -/
import Derived.Test.YtfclpknkidebaaaLab
namespace Go.Proofs.Ytfclpknkidebaaa
open Go.RowKit

/-- The two labels of the fixed fact lie in a world behind w. -/
structure AwakeAt (w w' : World) : Prop where
  below : Below w.heap.size w w'
  size : w.heap.size + 1 < w'.heap.size
  a0 : w'.cell? ⟨w.heap.size, 0, none⟩ = some (.int .i64 1)
  a1 : w'.cell? ⟨w.heap.size, 1, none⟩ = some (.int .i64 5)
  b0 : w'.cell? ⟨w.heap.size + 1, 0, none⟩ = some (.int .i64 3)
  b1 : w'.cell? ⟨w.heap.size + 1, 1, none⟩ = some (.int .i64 4)

theorem AwakeAt.start (w : World) : AwakeAt w ((w.alloc (Obj.cells #[Value.int IntKind.i64 1, Value.int IntKind.i64 5] 23)).alloc (Obj.cells #[Value.int IntKind.i64 3, Value.int IntKind.i64 4] 23)) :=
  ⟨((Below.refl _ _).alloc (Nat.le_refl _) _).alloc (by simp) _, by simp, by go_simp, by go_simp, by go_simp, by go_simp⟩

theorem AwakeAt.step {w w1 w2 : World} (h : AwakeAt w w1) (hb : Below w1.heap.size w1 w2) : AwakeAt w w2 := by
  have hs := h.size
  have ha := h.below.size
  refine ⟨h.below.trans (hb.mono h.below.size), Nat.lt_of_lt_of_le h.size hb.size, ?_, ?_, ?_, ?_⟩
  · rw [hb.cell (by simp; omega)]; exact h.a0
  · rw [hb.cell (by simp; omega)]; exact h.a1
  · rw [hb.cell (by simp; omega)]; exact h.b0
  · rw [hb.cell (by simp; omega)]; exact h.b1

theorem awake_any (w : World) : Calls Try.prog 8 #[] w fun e w' => e = .returned (.bool true) ∧ Below w.heap.size w w' := by
  go_enter Try.func8, Try.ntmps8
  go_wp2_with fail
  refine (leq_any 1 5 2 7 _).mono ?_
  rintro e w1 ⟨rfl, hb1⟩
  have h1 := (AwakeAt.start w).step hb1
  rw [show leqB 1 5 2 7 = true by decide]
  have q0 := h1.a0; have q1 := h1.a1; have q2 := h1.b0; have q3 := h1.b1
  clear hb1
  go_wp2_with fail
  clear q0 q1 q2 q3
  refine (leq_any 1 5 3 4 _).mono ?_
  rintro e w2 ⟨rfl, hb2⟩
  have h2 := h1.step hb2
  rw [show leqB 1 5 3 4 = false by decide]
  have q0 := h2.a0; have q1 := h2.a1; have q2 := h2.b0; have q3 := h2.b1
  clear hb2
  go_wp2_with fail
  clear q0 q1 q2 q3
  refine (join_any 1 5 3 4 _).mono ?_
  rintro e w3 ⟨rfl, hb3⟩
  have h3 := h2.step hb3
  rw [show bits .or .i64 5 4 = 5 by decide, show max (1 : Int) 3 = 3 by decide]
  have q0 := h3.a0; have q1 := h3.a1; have q2 := h3.b0; have q3 := h3.b1
  clear hb3
  go_wp2_with fail
  clear q0 q1 q2 q3
  refine (meet_any 1 5 3 4 _).mono ?_
  rintro e w4 ⟨rfl, hb4⟩
  have h4 := h3.step hb4
  rw [show bits .and .i64 5 4 = 4 by decide, show min (1 : Int) 3 = 1 by decide]
  have q0 := h4.a0; have q1 := h4.a1; have q2 := h4.b0; have q3 := h4.b1
  clear hb4
  go_wp2_with fail
  clear q0 q1 q2 q3
  refine (good_any 1 5 _).mono ?_
  rintro e w5 ⟨rfl, hb5⟩
  have h5 := h4.step hb5
  rw [show goodB 1 5 = true by decide]
  go_wp2_with fail
  refine (good_any 8 0 _).mono ?_
  rintro e w6 ⟨rfl, hb6⟩
  have h6 := h5.step hb6
  rw [show goodB 8 0 = false by decide]
  have q2 := h6.b0; have q3 := h6.b1
  clear hb6
  go_wp2_with fail
  clear q2 q3
  refine (refGood_any 3 4 (by unfold W64; omega) _).mono ?_
  rintro e w7 ⟨rfl, hb7⟩
  have h7 := h6.step hb7
  rw [show goodB 3 4 = true by decide]
  go_wp2_with fail
  go_ret
  exact ⟨rfl, h7.below⟩
end Go.Proofs.Ytfclpknkidebaaa
