/- The walk of LabelOrder. -/
import Derived.Test.YtfclpknkidebaaaLabAwake
import Derived.Deep.CutBlock
import Derived.Deep.DeepCutAuto
namespace Go.Proofs.Ytfclpknkidebaaa
open Go.RowKit

/-- A label in a block of its own. -/
def LabAt (w : World) (g : Nat) (l c : Int) : Prop := g < w.heap.size ∧ w.cell? ⟨g, 0, none⟩ = some (.int .i64 l) ∧ w.cell? ⟨g, 1, none⟩ = some (.int .i64 c)
theorem LabAt.step {w w' : World} {g : Nat} {l c : Int} (h : LabAt w g l c) (hb : Below w.heap.size w w') : LabAt w' g l c :=
  ⟨Nat.lt_of_lt_of_le h.1 hb.size, (hb.cell h.1).trans h.2.1, (hb.cell h.1).trans h.2.2⟩

theorem below_then {B : Nat} {w w1 w2 : World} (h : Below B w w1) (hB : B ≤ w1.heap.size) (k : Below w1.heap.size w1 w2) : Below B w w2 := h.trans (k.mono hB)

/-- Three labels lie behind w. -/
structure Three (w w' : World) (la ca lb cb lc cc : Int) : Prop where
  below : Below w.heap.size w w'
  a : LabAt w' w.heap.size la ca
  b : LabAt w' (w.heap.size + 1) lb cb
  c : LabAt w' (w.heap.size + 2) lc cc

theorem Three.step {w w1 w2 : World} {la ca lb cb lc cc : Int} (h : Three w w1 la ca lb cb lc cc) (hb : Below w1.heap.size w1 w2) : Three w w2 la ca lb cb lc cc :=
  ⟨below_then h.below h.below.size hb, h.a.step hb, h.b.step hb, h.c.step hb⟩

theorem Three.start (w : World) (la ca lb cb lc cc : Int) :
    Three w (((w.alloc (Obj.cells #[Value.int IntKind.i64 la, Value.int IntKind.i64 ca] 23)).alloc (Obj.cells #[Value.int IntKind.i64 lb, Value.int IntKind.i64 cb] 23)).alloc (Obj.cells #[Value.int IntKind.i64 lc, Value.int IntKind.i64 cc] 23)).drew la ca lb cb lc cc :=
  ⟨(below3 _ _ _).drew, ⟨by simp [World.drew]; omega, by go_simp, by go_simp⟩, ⟨by simp [World.drew], by go_simp, by go_simp⟩, ⟨by simp [World.drew], by go_simp, by go_simp⟩⟩

theorem Three.all {w w' : World} {la ca lb cb lc cc : Int} (h : Three w w' la ca lb cb lc cc) : Three w w' la ca lb cb lc cc ∧
    w'.cell? ⟨w.heap.size, 0, none⟩ = some (.int .i64 la) ∧ w'.cell? ⟨w.heap.size, 1, none⟩ = some (.int .i64 ca) ∧
    w'.cell? ⟨w.heap.size + 1, 0, none⟩ = some (.int .i64 lb) ∧ w'.cell? ⟨w.heap.size + 1, 1, none⟩ = some (.int .i64 cb) ∧
    w'.cell? ⟨w.heap.size + 2, 0, none⟩ = some (.int .i64 lc) ∧ w'.cell? ⟨w.heap.size + 2, 1, none⟩ = some (.int .i64 cc) :=
  ⟨h, h.a.2.1, h.a.2.2, h.b.2.1, h.b.2.2, h.c.2.1, h.c.2.2⟩


theorem Three.drew {w w' : World} {la ca lb cb lc cc : Int} (h : Three w w' la ca lb cb lc cc) : Three w w'.drew la ca lb cb lc cc :=
  h.step ((Below.refl _ _).drew)

/-- What a call of Leq leaves, for a region. -/
theorem leq_quiet {w : World} {la ca lb cb lc cc : Int} (x : Cls (fun w' => Three w w' la ca lb cb lc cc)) (l1 c1 l2 c2 : Int) {r : Bool} (hr : leqB l1 c1 l2 c2 = r) :
    Calls Try.prog 7 #[lab l1 c1, lab l2 c2] x.world fun e w'' => e = .returned (.bool r) ∧ ∃ y : Cls (fun w' => Three w w' la ca lb cb lc cc), w'' = y.world :=
  cls_call ((leq_any l1 c1 l2 c2 x.world).mono fun e w' ⟨he, hb⟩ => ⟨by rw [he, hr], x.ok.step hb⟩)
theorem awake_quiet {w : World} {la ca lb cb lc cc : Int} (x : Cls (fun w' => Three w w' la ca lb cb lc cc)) :
    Calls Try.prog 8 #[] x.world fun e w'' => e = .returned (.bool true) ∧ ∃ y : Cls (fun w' => Three w w' la ca lb cb lc cc), w'' = y.world :=
  cls_call ((awake_any x.world).mono fun e w' ⟨he, hb⟩ => ⟨he, x.ok.step hb⟩)



set_option maxHeartbeats 1000000 in
theorem order_far (la ca lb cb lc cc : Int) (w : World) (h_0 : leqB la ca la ca = true) (h_1 : leqB la ca lb cb = false)  :
    Calls Try.prog 3 #[lab la ca, lab lb cb, lab lc cc] w fun e w' => e = .returned (.bool true) ∧ Below w.heap.size w w' := by
  have h0 := (Three.start w la ca lb cb lc cc)
  have fa0 : ∀ x : Cls (fun w' => Three w w' la ca lb cb lc cc), x.world.cell? ⟨w.heap.size, 0, none⟩ = some (.int .i64 la) := fun x => x.ok.a.2.1
  have fa1 : ∀ x : Cls (fun w' => Three w w' la ca lb cb lc cc), x.world.cell? ⟨w.heap.size, 1, none⟩ = some (.int .i64 ca) := fun x => x.ok.a.2.2
  have fb0 : ∀ x : Cls (fun w' => Three w w' la ca lb cb lc cc), x.world.cell? ⟨w.heap.size + 1, 0, none⟩ = some (.int .i64 lb) := fun x => x.ok.b.2.1
  have fb1 : ∀ x : Cls (fun w' => Three w w' la ca lb cb lc cc), x.world.cell? ⟨w.heap.size + 1, 1, none⟩ = some (.int .i64 cb) := fun x => x.ok.b.2.2
  have fc0 : ∀ x : Cls (fun w' => Three w w' la ca lb cb lc cc), x.world.cell? ⟨w.heap.size + 2, 0, none⟩ = some (.int .i64 lc) := fun x => x.ok.c.2.1
  have fc1 : ∀ x : Cls (fun w' => Three w w' la ca lb cb lc cc), x.world.cell? ⟨w.heap.size + 2, 1, none⟩ = some (.int .i64 cc) := fun x => x.ok.c.2.2
  have hne0 : Nonempty (Cls (fun w' => Three w w' la ca lb cb lc cc)) := ⟨⟨_, h0⟩⟩
  go_enter Try.func3, Try.ntmps3
  go_wp2
  refine wp_region_class (fun w' => Three w w' la ca lb cb lc cc) (by kernel_rfl) (by kernel_rfl) h0 ?_
  repeat (go_big_quiet_step (first | exact awake_quiet _ | exact leq_quiet _ _ _ _ _ h_0 | exact leq_quiet _ _ _ _ _ h_1))
  refine wpQuiet_nil ?_
  rintro _ ⟨⟨w1, hw1⟩, rfl⟩
  go_upto_region 3 with (fail)
  refine wp_region_plain (fun w' => Three w w' la ca lb cb lc cc) hw1 ?_
  repeat (go_big_quiet_step (first | exact awake_quiet _ | exact leq_quiet _ _ _ _ _ h_0 | exact leq_quiet _ _ _ _ _ h_1))
  refine wpQuiet_nil ?_
  rintro _ ⟨⟨w2, hw2⟩, rfl⟩
  go_wp2
  go_ret
  exact ⟨rfl, hw2.below⟩

set_option maxHeartbeats 1000000 in
theorem order_l1 (la ca lb cb lc cc : Int) (w : World) (h_0 : leqB la ca la ca = true) (h_1 : leqB la ca lb cb = true) (h_2 : leqB lb cb la ca = false) (h_3 : leqB lb cb lc cc = false) (hl : ¬ la = lb) :
    Calls Try.prog 3 #[lab la ca, lab lb cb, lab lc cc] w fun e w' => e = .returned (.bool true) ∧ Below w.heap.size w w' := by
  have h0 := (Three.start w la ca lb cb lc cc)
  have fa0 : ∀ x : Cls (fun w' => Three w w' la ca lb cb lc cc), x.world.cell? ⟨w.heap.size, 0, none⟩ = some (.int .i64 la) := fun x => x.ok.a.2.1
  have fa1 : ∀ x : Cls (fun w' => Three w w' la ca lb cb lc cc), x.world.cell? ⟨w.heap.size, 1, none⟩ = some (.int .i64 ca) := fun x => x.ok.a.2.2
  have fb0 : ∀ x : Cls (fun w' => Three w w' la ca lb cb lc cc), x.world.cell? ⟨w.heap.size + 1, 0, none⟩ = some (.int .i64 lb) := fun x => x.ok.b.2.1
  have fb1 : ∀ x : Cls (fun w' => Three w w' la ca lb cb lc cc), x.world.cell? ⟨w.heap.size + 1, 1, none⟩ = some (.int .i64 cb) := fun x => x.ok.b.2.2
  have fc0 : ∀ x : Cls (fun w' => Three w w' la ca lb cb lc cc), x.world.cell? ⟨w.heap.size + 2, 0, none⟩ = some (.int .i64 lc) := fun x => x.ok.c.2.1
  have fc1 : ∀ x : Cls (fun w' => Three w w' la ca lb cb lc cc), x.world.cell? ⟨w.heap.size + 2, 1, none⟩ = some (.int .i64 cc) := fun x => x.ok.c.2.2
  have hne0 : Nonempty (Cls (fun w' => Three w w' la ca lb cb lc cc)) := ⟨⟨_, h0⟩⟩
  go_enter Try.func3, Try.ntmps3
  go_wp2
  refine wp_region_class (fun w' => Three w w' la ca lb cb lc cc) (by kernel_rfl) (by kernel_rfl) h0 ?_
  repeat (go_big_quiet_step (first | exact awake_quiet _ | exact leq_quiet _ _ _ _ _ h_0 | exact leq_quiet _ _ _ _ _ h_1 | exact leq_quiet _ _ _ _ _ h_2 | exact leq_quiet _ _ _ _ _ h_3))
  refine wpQuiet_nil ?_
  rintro _ ⟨⟨w1, hw1⟩, rfl⟩
  go_upto_region 3 with (fail)
  refine wp_region_plain (fun w' => Three w w' la ca lb cb lc cc) hw1 ?_
  repeat (go_big_quiet_step (first | exact awake_quiet _ | exact leq_quiet _ _ _ _ _ h_0 | exact leq_quiet _ _ _ _ _ h_1 | exact leq_quiet _ _ _ _ _ h_2 | exact leq_quiet _ _ _ _ _ h_3))
  refine wpQuiet_nil ?_
  rintro _ ⟨⟨w2, hw2⟩, rfl⟩
  go_wp2
  go_ret
  exact ⟨rfl, hw2.below⟩

set_option maxHeartbeats 1000000 in
theorem order_l2 (la ca lb cb lc cc : Int) (w : World) (h_0 : leqB la ca la ca = true) (h_1 : leqB la ca lb cb = true) (h_2 : leqB lb cb la ca = false) (h_3 : leqB lb cb lc cc = true) (h_4 : leqB la ca lc cc = true) (hl : ¬ la = lb) :
    Calls Try.prog 3 #[lab la ca, lab lb cb, lab lc cc] w fun e w' => e = .returned (.bool true) ∧ Below w.heap.size w w' := by
  have h0 := (Three.start w la ca lb cb lc cc)
  have fa0 : ∀ x : Cls (fun w' => Three w w' la ca lb cb lc cc), x.world.cell? ⟨w.heap.size, 0, none⟩ = some (.int .i64 la) := fun x => x.ok.a.2.1
  have fa1 : ∀ x : Cls (fun w' => Three w w' la ca lb cb lc cc), x.world.cell? ⟨w.heap.size, 1, none⟩ = some (.int .i64 ca) := fun x => x.ok.a.2.2
  have fb0 : ∀ x : Cls (fun w' => Three w w' la ca lb cb lc cc), x.world.cell? ⟨w.heap.size + 1, 0, none⟩ = some (.int .i64 lb) := fun x => x.ok.b.2.1
  have fb1 : ∀ x : Cls (fun w' => Three w w' la ca lb cb lc cc), x.world.cell? ⟨w.heap.size + 1, 1, none⟩ = some (.int .i64 cb) := fun x => x.ok.b.2.2
  have fc0 : ∀ x : Cls (fun w' => Three w w' la ca lb cb lc cc), x.world.cell? ⟨w.heap.size + 2, 0, none⟩ = some (.int .i64 lc) := fun x => x.ok.c.2.1
  have fc1 : ∀ x : Cls (fun w' => Three w w' la ca lb cb lc cc), x.world.cell? ⟨w.heap.size + 2, 1, none⟩ = some (.int .i64 cc) := fun x => x.ok.c.2.2
  have hne0 : Nonempty (Cls (fun w' => Three w w' la ca lb cb lc cc)) := ⟨⟨_, h0⟩⟩
  go_enter Try.func3, Try.ntmps3
  go_wp2
  refine wp_region_class (fun w' => Three w w' la ca lb cb lc cc) (by kernel_rfl) (by kernel_rfl) h0 ?_
  repeat (go_big_quiet_step (first | exact awake_quiet _ | exact leq_quiet _ _ _ _ _ h_0 | exact leq_quiet _ _ _ _ _ h_1 | exact leq_quiet _ _ _ _ _ h_2 | exact leq_quiet _ _ _ _ _ h_3 | exact leq_quiet _ _ _ _ _ h_4))
  refine wpQuiet_nil ?_
  rintro _ ⟨⟨w1, hw1⟩, rfl⟩
  go_upto_region 3 with (fail)
  refine wp_region_plain (fun w' => Three w w' la ca lb cb lc cc) hw1 ?_
  repeat (go_big_quiet_step (first | exact awake_quiet _ | exact leq_quiet _ _ _ _ _ h_0 | exact leq_quiet _ _ _ _ _ h_1 | exact leq_quiet _ _ _ _ _ h_2 | exact leq_quiet _ _ _ _ _ h_3 | exact leq_quiet _ _ _ _ _ h_4))
  refine wpQuiet_nil ?_
  rintro _ ⟨⟨w2, hw2⟩, rfl⟩
  go_wp2
  go_ret
  exact ⟨rfl, hw2.below⟩

set_option maxHeartbeats 1000000 in
theorem order_c1 (la ca cb lc cc : Int) (w : World) (h_0 : leqB la ca la ca = true) (h_1 : leqB la ca la cb = true) (h_2 : leqB la cb la ca = false) (h_3 : leqB la cb lc cc = false) (hl : ¬ ca = cb) :
    Calls Try.prog 3 #[lab la ca, lab la cb, lab lc cc] w fun e w' => e = .returned (.bool true) ∧ Below w.heap.size w w' := by
  have h0 := (Three.start w la ca la cb lc cc)
  have fa0 : ∀ x : Cls (fun w' => Three w w' la ca la cb lc cc), x.world.cell? ⟨w.heap.size, 0, none⟩ = some (.int .i64 la) := fun x => x.ok.a.2.1
  have fa1 : ∀ x : Cls (fun w' => Three w w' la ca la cb lc cc), x.world.cell? ⟨w.heap.size, 1, none⟩ = some (.int .i64 ca) := fun x => x.ok.a.2.2
  have fb0 : ∀ x : Cls (fun w' => Three w w' la ca la cb lc cc), x.world.cell? ⟨w.heap.size + 1, 0, none⟩ = some (.int .i64 la) := fun x => x.ok.b.2.1
  have fb1 : ∀ x : Cls (fun w' => Three w w' la ca la cb lc cc), x.world.cell? ⟨w.heap.size + 1, 1, none⟩ = some (.int .i64 cb) := fun x => x.ok.b.2.2
  have fc0 : ∀ x : Cls (fun w' => Three w w' la ca la cb lc cc), x.world.cell? ⟨w.heap.size + 2, 0, none⟩ = some (.int .i64 lc) := fun x => x.ok.c.2.1
  have fc1 : ∀ x : Cls (fun w' => Three w w' la ca la cb lc cc), x.world.cell? ⟨w.heap.size + 2, 1, none⟩ = some (.int .i64 cc) := fun x => x.ok.c.2.2
  have hne0 : Nonempty (Cls (fun w' => Three w w' la ca la cb lc cc)) := ⟨⟨_, h0⟩⟩
  go_enter Try.func3, Try.ntmps3
  go_wp2
  refine wp_region_class (fun w' => Three w w' la ca la cb lc cc) (by kernel_rfl) (by kernel_rfl) h0 ?_
  repeat (go_big_quiet_step (first | exact awake_quiet _ | exact leq_quiet _ _ _ _ _ h_0 | exact leq_quiet _ _ _ _ _ h_1 | exact leq_quiet _ _ _ _ _ h_2 | exact leq_quiet _ _ _ _ _ h_3))
  refine wpQuiet_nil ?_
  rintro _ ⟨⟨w1, hw1⟩, rfl⟩
  go_upto_region 3 with (fail)
  refine wp_region_plain (fun w' => Three w w' la ca la cb lc cc) hw1 ?_
  repeat (go_big_quiet_step (first | exact awake_quiet _ | exact leq_quiet _ _ _ _ _ h_0 | exact leq_quiet _ _ _ _ _ h_1 | exact leq_quiet _ _ _ _ _ h_2 | exact leq_quiet _ _ _ _ _ h_3))
  refine wpQuiet_nil ?_
  rintro _ ⟨⟨w2, hw2⟩, rfl⟩
  go_wp2
  go_ret
  exact ⟨rfl, hw2.below⟩

set_option maxHeartbeats 1000000 in
theorem order_c2 (la ca cb lc cc : Int) (w : World) (h_0 : leqB la ca la ca = true) (h_1 : leqB la ca la cb = true) (h_2 : leqB la cb la ca = false) (h_3 : leqB la cb lc cc = true) (h_4 : leqB la ca lc cc = true) (hl : ¬ ca = cb) :
    Calls Try.prog 3 #[lab la ca, lab la cb, lab lc cc] w fun e w' => e = .returned (.bool true) ∧ Below w.heap.size w w' := by
  have h0 := (Three.start w la ca la cb lc cc)
  have fa0 : ∀ x : Cls (fun w' => Three w w' la ca la cb lc cc), x.world.cell? ⟨w.heap.size, 0, none⟩ = some (.int .i64 la) := fun x => x.ok.a.2.1
  have fa1 : ∀ x : Cls (fun w' => Three w w' la ca la cb lc cc), x.world.cell? ⟨w.heap.size, 1, none⟩ = some (.int .i64 ca) := fun x => x.ok.a.2.2
  have fb0 : ∀ x : Cls (fun w' => Three w w' la ca la cb lc cc), x.world.cell? ⟨w.heap.size + 1, 0, none⟩ = some (.int .i64 la) := fun x => x.ok.b.2.1
  have fb1 : ∀ x : Cls (fun w' => Three w w' la ca la cb lc cc), x.world.cell? ⟨w.heap.size + 1, 1, none⟩ = some (.int .i64 cb) := fun x => x.ok.b.2.2
  have fc0 : ∀ x : Cls (fun w' => Three w w' la ca la cb lc cc), x.world.cell? ⟨w.heap.size + 2, 0, none⟩ = some (.int .i64 lc) := fun x => x.ok.c.2.1
  have fc1 : ∀ x : Cls (fun w' => Three w w' la ca la cb lc cc), x.world.cell? ⟨w.heap.size + 2, 1, none⟩ = some (.int .i64 cc) := fun x => x.ok.c.2.2
  have hne0 : Nonempty (Cls (fun w' => Three w w' la ca la cb lc cc)) := ⟨⟨_, h0⟩⟩
  go_enter Try.func3, Try.ntmps3
  go_wp2
  refine wp_region_class (fun w' => Three w w' la ca la cb lc cc) (by kernel_rfl) (by kernel_rfl) h0 ?_
  repeat (go_big_quiet_step (first | exact awake_quiet _ | exact leq_quiet _ _ _ _ _ h_0 | exact leq_quiet _ _ _ _ _ h_1 | exact leq_quiet _ _ _ _ _ h_2 | exact leq_quiet _ _ _ _ _ h_3 | exact leq_quiet _ _ _ _ _ h_4))
  refine wpQuiet_nil ?_
  rintro _ ⟨⟨w1, hw1⟩, rfl⟩
  go_upto_region 3 with (fail)
  refine wp_region_plain (fun w' => Three w w' la ca la cb lc cc) hw1 ?_
  repeat (go_big_quiet_step (first | exact awake_quiet _ | exact leq_quiet _ _ _ _ _ h_0 | exact leq_quiet _ _ _ _ _ h_1 | exact leq_quiet _ _ _ _ _ h_2 | exact leq_quiet _ _ _ _ _ h_3 | exact leq_quiet _ _ _ _ _ h_4))
  refine wpQuiet_nil ?_
  rintro _ ⟨⟨w2, hw2⟩, rfl⟩
  go_wp2
  go_ret
  exact ⟨rfl, hw2.below⟩

set_option maxHeartbeats 1000000 in
theorem order_e1 (la ca lc cc : Int) (w : World) (h_0 : leqB la ca la ca = true) (h_1 : leqB la ca lc cc = false)  :
    Calls Try.prog 3 #[lab la ca, lab la ca, lab lc cc] w fun e w' => e = .returned (.bool true) ∧ Below w.heap.size w w' := by
  have h0 := (Three.start w la ca la ca lc cc)
  have fa0 : ∀ x : Cls (fun w' => Three w w' la ca la ca lc cc), x.world.cell? ⟨w.heap.size, 0, none⟩ = some (.int .i64 la) := fun x => x.ok.a.2.1
  have fa1 : ∀ x : Cls (fun w' => Three w w' la ca la ca lc cc), x.world.cell? ⟨w.heap.size, 1, none⟩ = some (.int .i64 ca) := fun x => x.ok.a.2.2
  have fb0 : ∀ x : Cls (fun w' => Three w w' la ca la ca lc cc), x.world.cell? ⟨w.heap.size + 1, 0, none⟩ = some (.int .i64 la) := fun x => x.ok.b.2.1
  have fb1 : ∀ x : Cls (fun w' => Three w w' la ca la ca lc cc), x.world.cell? ⟨w.heap.size + 1, 1, none⟩ = some (.int .i64 ca) := fun x => x.ok.b.2.2
  have fc0 : ∀ x : Cls (fun w' => Three w w' la ca la ca lc cc), x.world.cell? ⟨w.heap.size + 2, 0, none⟩ = some (.int .i64 lc) := fun x => x.ok.c.2.1
  have fc1 : ∀ x : Cls (fun w' => Three w w' la ca la ca lc cc), x.world.cell? ⟨w.heap.size + 2, 1, none⟩ = some (.int .i64 cc) := fun x => x.ok.c.2.2
  have hne0 : Nonempty (Cls (fun w' => Three w w' la ca la ca lc cc)) := ⟨⟨_, h0⟩⟩
  go_enter Try.func3, Try.ntmps3
  go_wp2
  refine wp_region_class (fun w' => Three w w' la ca la ca lc cc) (by kernel_rfl) (by kernel_rfl) h0 ?_
  repeat (go_big_quiet_step (first | exact awake_quiet _ | exact leq_quiet _ _ _ _ _ h_0 | exact leq_quiet _ _ _ _ _ h_1))
  refine wpQuiet_nil ?_
  rintro _ ⟨⟨w1, hw1⟩, rfl⟩
  go_upto_region 3 with (fail)
  refine wp_region_plain (fun w' => Three w w' la ca la ca lc cc) hw1 ?_
  repeat (go_big_quiet_step (first | exact awake_quiet _ | exact leq_quiet _ _ _ _ _ h_0 | exact leq_quiet _ _ _ _ _ h_1))
  refine wpQuiet_nil ?_
  rintro _ ⟨⟨w2, hw2⟩, rfl⟩
  go_wp2
  go_ret
  exact ⟨rfl, hw2.below⟩

set_option maxHeartbeats 1000000 in
theorem order_e2 (la ca lc cc : Int) (w : World) (h_0 : leqB la ca la ca = true) (h_1 : leqB la ca lc cc = true)  :
    Calls Try.prog 3 #[lab la ca, lab la ca, lab lc cc] w fun e w' => e = .returned (.bool true) ∧ Below w.heap.size w w' := by
  have h0 := (Three.start w la ca la ca lc cc)
  have fa0 : ∀ x : Cls (fun w' => Three w w' la ca la ca lc cc), x.world.cell? ⟨w.heap.size, 0, none⟩ = some (.int .i64 la) := fun x => x.ok.a.2.1
  have fa1 : ∀ x : Cls (fun w' => Three w w' la ca la ca lc cc), x.world.cell? ⟨w.heap.size, 1, none⟩ = some (.int .i64 ca) := fun x => x.ok.a.2.2
  have fb0 : ∀ x : Cls (fun w' => Three w w' la ca la ca lc cc), x.world.cell? ⟨w.heap.size + 1, 0, none⟩ = some (.int .i64 la) := fun x => x.ok.b.2.1
  have fb1 : ∀ x : Cls (fun w' => Three w w' la ca la ca lc cc), x.world.cell? ⟨w.heap.size + 1, 1, none⟩ = some (.int .i64 ca) := fun x => x.ok.b.2.2
  have fc0 : ∀ x : Cls (fun w' => Three w w' la ca la ca lc cc), x.world.cell? ⟨w.heap.size + 2, 0, none⟩ = some (.int .i64 lc) := fun x => x.ok.c.2.1
  have fc1 : ∀ x : Cls (fun w' => Three w w' la ca la ca lc cc), x.world.cell? ⟨w.heap.size + 2, 1, none⟩ = some (.int .i64 cc) := fun x => x.ok.c.2.2
  have hne0 : Nonempty (Cls (fun w' => Three w w' la ca la ca lc cc)) := ⟨⟨_, h0⟩⟩
  go_enter Try.func3, Try.ntmps3
  go_wp2
  refine wp_region_class (fun w' => Three w w' la ca la ca lc cc) (by kernel_rfl) (by kernel_rfl) h0 ?_
  repeat (go_big_quiet_step (first | exact awake_quiet _ | exact leq_quiet _ _ _ _ _ h_0 | exact leq_quiet _ _ _ _ _ h_1))
  refine wpQuiet_nil ?_
  rintro _ ⟨⟨w1, hw1⟩, rfl⟩
  go_upto_region 3 with (fail)
  refine wp_region_plain (fun w' => Three w w' la ca la ca lc cc) hw1 ?_
  repeat (go_big_quiet_step (first | exact awake_quiet _ | exact leq_quiet _ _ _ _ _ h_0 | exact leq_quiet _ _ _ _ _ h_1))
  refine wpQuiet_nil ?_
  rintro _ ⟨⟨w2, hw2⟩, rfl⟩
  go_wp2
  go_ret
  exact ⟨rfl, hw2.below⟩

theorem labelOrder_walk (la ca lb cb lc cc : Int) (w : World) (_ : (Lit.int .i64 la).wf = true) (wca : (Lit.int .i64 ca).wf = true) (_ : (Lit.int .i64 lb).wf = true) (wcb : (Lit.int .i64 cb).wf = true)
    (_ : (Lit.int .i64 lc).wf = true) (_ : (Lit.int .i64 cc).wf = true) :
    Calls Try.prog 3 #[lab la ca, lab lb cb, lab lc cc] w fun e w' => e = .returned (.bool true) ∧ Below w.heap.size w w' := by
  have haa : leqB la ca la ca = true := (leqB_iff _ _ _ _).2 ⟨Int.le_refl _, Sub.refl _⟩
  cases hab : leqB la ca lb cb with
  | false => exact order_far la ca lb cb lc cc w haa hab
  | true =>
    have iab := (leqB_iff _ _ _ _).1 hab
    by_cases hl : la = lb
    · subst hl
      by_cases hc : ca = cb
      · subst hc
        cases hac : leqB la ca lc cc with
        | false => exact order_e1 la ca lc cc w haa hac
        | true => exact order_e2 la ca lc cc w haa hac
      · have hba : leqB la cb la ca = false := by
          rw [Bool.eq_false_iff]
          intro h
          exact hc (Sub.antisymm (W64_of wca) (W64_of wcb) iab.2 ((leqB_iff _ _ _ _).1 h).2)
        cases hbc : leqB la cb lc cc with
        | false => exact order_c1 la ca cb lc cc w haa hab hba hbc hc
        | true =>
          have ibc := (leqB_iff _ _ _ _).1 hbc
          exact order_c2 la ca cb lc cc w haa hab hba hbc ((leqB_iff _ _ _ _).2 ⟨ibc.1, iab.2.trans ibc.2⟩) hc
    · have hba : leqB lb cb la ca = false := by
        rw [Bool.eq_false_iff]
        intro h
        have := ((leqB_iff _ _ _ _).1 h).1
        omega
      cases hbc : leqB lb cb lc cc with
      | false => exact order_l1 la ca lb cb lc cc w haa hab hba hbc hl
      | true =>
        have ibc := (leqB_iff _ _ _ _).1 hbc
        exact order_l2 la ca lb cb lc cc w haa hab hba hbc ((leqB_iff _ _ _ _).2 ⟨by omega, iab.2.trans ibc.2⟩) hl
end Go.Proofs.Ytfclpknkidebaaa
