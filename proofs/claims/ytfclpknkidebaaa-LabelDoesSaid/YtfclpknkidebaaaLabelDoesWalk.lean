/- The walk of LabelDoes. -/
import Derived.Test.YtfclpknkidebaaaRefLab
import Derived.Test.YtfclpknkidebaaaLabAwake
import Derived.Deep.CutBlock
namespace Go.Proofs.Ytfclpknkidebaaa
open Go.RowKit

/-- Two labels lie behind w. -/
structure Two (w w' : World) (la ca lb cb : Int) : Prop where
  below : Below w.heap.size w w'
  size : w.heap.size + 1 < w'.heap.size
  a0 : w'.cell? ⟨w.heap.size, 0, none⟩ = some (.int .i64 la)
  a1 : w'.cell? ⟨w.heap.size, 1, none⟩ = some (.int .i64 ca)
  b0 : w'.cell? ⟨w.heap.size + 1, 0, none⟩ = some (.int .i64 lb)
  b1 : w'.cell? ⟨w.heap.size + 1, 1, none⟩ = some (.int .i64 cb)

theorem Two.start (w : World) (la ca lb cb : Int) : Two w ((w.alloc (Obj.cells #[Value.int IntKind.i64 la, Value.int IntKind.i64 ca] 23)).alloc (Obj.cells #[Value.int IntKind.i64 lb, Value.int IntKind.i64 cb] 23)).drew la ca lb cb :=
  ⟨(((Below.refl _ _).alloc (Nat.le_refl _) _).alloc (by simp) _).drew, by simp [World.drew], by go_simp, by go_simp, by go_simp, by go_simp⟩

theorem Two.step {w w1 w2 : World} {la ca lb cb : Int} (h : Two w w1 la ca lb cb) (hb : Below w1.heap.size w1 w2) : Two w w2 la ca lb cb := by
  have hs := h.size
  refine ⟨h.below.trans (hb.mono h.below.size), Nat.lt_of_lt_of_le h.size hb.size, ?_, ?_, ?_, ?_⟩
  · rw [hb.cell (by simp; omega)]; exact h.a0
  · rw [hb.cell (by simp; omega)]; exact h.a1
  · rw [hb.cell (by simp; omega)]; exact h.b0
  · rw [hb.cell (by simp; omega)]; exact h.b1

theorem two_call {w : World} {la ca lb cb : Int} {f : FuncId} {args : Array Value} {v : Value} (x : Cls (fun w' => Two w w' la ca lb cb)) (h : Calls Try.prog f args x.world fun e w' => e = .returned v ∧ Below x.world.heap.size x.world w') :
    Calls Try.prog f args x.world fun e w'' => e = .returned v ∧ ∃ y : Cls (fun w' => Two w w' la ca lb cb), w'' = y.world :=
  cls_call (h.mono fun e w' ⟨he, hb⟩ => ⟨he, x.ok.step hb⟩)

set_option maxHeartbeats 2000000 in
theorem labelDoes_walk (la ca lb cb : Int) (w : World) (_ : (Lit.int .i64 la).wf = true) (wca : (Lit.int .i64 ca).wf = true) (_ : (Lit.int .i64 lb).wf = true) (_ : (Lit.int .i64 cb).wf = true) :
    Calls Try.prog 5 #[lab la ca, lab lb cb] w fun e w' => e = .returned (.bool true) ∧ Below w.heap.size w w' := by
  have h0 := Two.start w la ca lb cb
  have fa0 : ∀ x : Cls (fun w' => Two w w' la ca lb cb), x.world.cell? ⟨w.heap.size, 0, none⟩ = some (.int .i64 la) := fun x => x.ok.a0
  have fa1 : ∀ x : Cls (fun w' => Two w w' la ca lb cb), x.world.cell? ⟨w.heap.size, 1, none⟩ = some (.int .i64 ca) := fun x => x.ok.a1
  have fb0 : ∀ x : Cls (fun w' => Two w w' la ca lb cb), x.world.cell? ⟨w.heap.size + 1, 0, none⟩ = some (.int .i64 lb) := fun x => x.ok.b0
  have fb1 : ∀ x : Cls (fun w' => Two w w' la ca lb cb), x.world.cell? ⟨w.heap.size + 1, 1, none⟩ = some (.int .i64 cb) := fun x => x.ok.b1
  have hne0 : Nonempty (Cls (fun w' => Two w w' la ca lb cb)) := ⟨⟨_, h0⟩⟩
  go_enter Try.func5, Try.ntmps5
  go_wp2
  refine wp_region_class (fun w' => Two w w' la ca lb cb) (by kernel_rfl) (by kernel_rfl) h0 ?_
  repeat (go_big_quiet_step (first | exact two_call _ (awake_any _) | exact two_call _ (good_any _ _ _) | exact two_call _ (refGood_any _ _ (W64_of wca) _) | exact two_call _ (leq_any _ _ _ _ _) | exact two_call _ (refLeq_any _ _ _ _ _) | exact two_call _ (join_any _ _ _ _ _) | exact two_call _ (refJoin_any _ _ _ _ _) | exact two_call _ (meet_any _ _ _ _ _) | exact two_call _ (refMeet_any _ _ _ _ _)))
  refine wpQuiet_nil ?_
  rintro _ ⟨⟨w1, h1⟩, rfl⟩
  go_wp2
  go_ret
  exact ⟨rfl, h1.below⟩
end Go.Proofs.Ytfclpknkidebaaa
