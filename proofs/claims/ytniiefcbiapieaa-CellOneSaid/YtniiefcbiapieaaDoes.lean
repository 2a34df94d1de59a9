/- What an act comes to, of a cell and of the reference's. -/
import Derived.Test.YtniiefcbiapieaaDuo
namespace Go.Proofs.Ytniiefcbiapieaa
open Go.RowKit

section
variable {w0 w : World} {γ : Nat → Option (Nat × Obj)} {gp gr : Nat} {c : CS}

set_option maxRecDepth 100000 in
set_option maxHeartbeats 4000000 in
theorem does0 (ho : Own w0 w γ) (hp : γ 1 = some (gp, cellO c)) (hr : RefC γ 2 3 gr c) (hc : c.Ok) (d : Nat) (t i v : Int) (hm : (d : Int) % 10 = 0) :
    Calls Try.prog 28 #[.pointer (some ⟨gp, 0, none⟩), .pointer (some ⟨gr, 0, none⟩), .agg #[.int .u8 d, .int .i64 t, .int .i64 i, .int .i64 v]] w (doesPost w0 γ gp gr (c)) := by
  have h0 := Duo.start ho hp hr (actO d t i v)
  obtain ⟨e0, e1, e2, e3⟩ := h0.cells
  have h1 : Hid (Duo w0 γ gp gr w.heap.size (actO d t i v) c c (w.alloc (actO d t i v))) := h0
  unfold actO at e0 e1 e2 e3
  clear ho hp hr h0
  go_enter Try.func28, Try.ntmps28
  go_wp2_with fail
  have h2 := h1.out
  unfold actO at h2
  clear h1
  refine (duo_start h2 hc).mono ?_
  rintro e w1 ⟨rfl, rfl⟩
  rw [ans2_eq]
  generalize hA : c.startN = A at *
  generalize hB : c.startE = B at *
  go_wp2_with fail
  refine (duo_rstart h2 hc).mono ?_
  rintro e w1 ⟨rfl, h3⟩
  rw [hA, hB, ans2_eq]
  have hfin := h3.post
  clear hA hB h2 h3
  go_wp2_with fail
  go_ret
  exact hfin

set_option maxRecDepth 100000 in
set_option maxHeartbeats 4000000 in
theorem does1 (ho : Own w0 w γ) (hp : γ 1 = some (gp, cellO c)) (hr : RefC γ 2 3 gr c) (hc : c.Ok) (d : Nat) (t i v : Int) (hm : (d : Int) % 10 = 1) :
    Calls Try.prog 28 #[.pointer (some ⟨gp, 0, none⟩), .pointer (some ⟨gr, 0, none⟩), .agg #[.int .u8 d, .int .i64 t, .int .i64 i, .int .i64 v]] w (doesPost w0 γ gp gr (c)) := by
  have h0 := Duo.start ho hp hr (actO d t i v)
  obtain ⟨e0, e1, e2, e3⟩ := h0.cells
  have h1 : Hid (Duo w0 γ gp gr w.heap.size (actO d t i v) c c (w.alloc (actO d t i v))) := h0
  unfold actO at e0 e1 e2 e3
  clear ho hp hr h0
  go_enter Try.func28, Try.ntmps28
  go_wp2_with fail
  have h2 := h1.out
  unfold actO at h2
  clear h1
  refine (duo_word h2 hc i).mono ?_
  rintro e w1 ⟨rfl, rfl⟩
  rw [ans2_eq]
  generalize hA : c.wordN i = A at *
  generalize hB : c.wordE i = B at *
  go_wp2_with fail
  refine (duo_rword h2 hc i).mono ?_
  rintro e w1 ⟨rfl, h3⟩
  rw [hA, hB, ans2_eq]
  have hfin := h3.post
  clear hA hB h2 h3
  go_wp2_with fail
  go_ret
  exact hfin

set_option maxRecDepth 100000 in
set_option maxHeartbeats 4000000 in
theorem does2 (ho : Own w0 w γ) (hp : γ 1 = some (gp, cellO c)) (hr : RefC γ 2 3 gr c) (hc : c.Ok) (d : Nat) (t i v : Int) (hm : (d : Int) % 10 = 2) :
    Calls Try.prog 28 #[.pointer (some ⟨gp, 0, none⟩), .pointer (some ⟨gr, 0, none⟩), .agg #[.int .u8 d, .int .i64 t, .int .i64 i, .int .i64 v]] w (doesPost w0 γ gp gr (c)) := by
  have h0 := Duo.start ho hp hr (actO d t i v)
  obtain ⟨e0, e1, e2, e3⟩ := h0.cells
  have h1 : Hid (Duo w0 γ gp gr w.heap.size (actO d t i v) c c (w.alloc (actO d t i v))) := h0
  unfold actO at e0 e1 e2 e3
  clear ho hp hr h0
  go_enter Try.func28, Try.ntmps28
  go_wp2_with fail
  have h2 := h1.out
  have h2 := h2.drew
  clear h1
  go_region_held3 (fun w' => w'.cell? ⟨w.heap.size, 1, none⟩ = some (.int .i64 t) ∧ w'.cell? ⟨w.heap.size, 2, none⟩ = some (.int .i64 i) ∧ w'.cell? ⟨w.heap.size, 3, none⟩ = some (.int .i64 v)) (first | go_keep | exact ⟨by assumption, by assumption, by assumption⟩)
    (first | (go_at_call 35; refine (duo_same (by assumption) hc v).mono ?_; (rintro e w' ⟨rfl, rfl⟩; rw [ans_eq])) | (go_at_call 52; refine (duo_rsame (by assumption) hc v).mono ?_; (rintro e w' ⟨rfl, h9⟩; obtain ⟨q0, q1, q2, q3⟩ := h9.cells; rw [ans_eq])))
  all_goals go_wp2
  all_goals go_ret
  all_goals exact Duo.post (by assumption)

set_option maxRecDepth 100000 in
set_option maxHeartbeats 4000000 in
theorem does3 (ho : Own w0 w γ) (hp : γ 1 = some (gp, cellO c)) (hr : RefC γ 2 3 gr c) (hc : c.Ok) (d : Nat) (t i v : Int) (hm : (d : Int) % 10 = 3) :
    Calls Try.prog 28 #[.pointer (some ⟨gp, 0, none⟩), .pointer (some ⟨gr, 0, none⟩), .agg #[.int .u8 d, .int .i64 t, .int .i64 i, .int .i64 v]] w (doesPost w0 γ gp gr (c.begin t)) := by
  have h0 := Duo.start ho hp hr (actO d t i v)
  obtain ⟨e0, e1, e2, e3⟩ := h0.cells
  have h1 : Hid (Duo w0 γ gp gr w.heap.size (actO d t i v) c c (w.alloc (actO d t i v))) := h0
  unfold actO at e0 e1 e2 e3
  clear ho hp hr h0
  go_enter Try.func28, Try.ntmps28
  go_wp2_with fail
  have h2 := h1.out
  have h2 := h2.drew
  clear h1
  go_region_held3 (fun w' => w'.cell? ⟨w.heap.size, 1, none⟩ = some (.int .i64 t) ∧ w'.cell? ⟨w.heap.size, 2, none⟩ = some (.int .i64 i) ∧ w'.cell? ⟨w.heap.size, 3, none⟩ = some (.int .i64 v)) (first | go_keep | exact ⟨by assumption, by assumption, by assumption⟩)
    (first | (go_at_call 36; refine (duo_begin (by assumption) hc t).mono ?_; (rintro e w' ⟨rfl, h9⟩; obtain ⟨q0, q1, q2, q3⟩ := h9.cells; rw [ans_eq])) | (go_at_call 53; refine (duo_rbegin (by assumption) hc t).mono ?_; (rintro e w' ⟨rfl, h9⟩; obtain ⟨q0, q1, q2, q3⟩ := h9.cells; rw [ans_eq])))
  all_goals go_wp2
  all_goals go_ret
  all_goals exact Duo.post (by assumption)

set_option maxRecDepth 100000 in
set_option maxHeartbeats 4000000 in
theorem does4 (ho : Own w0 w γ) (hp : γ 1 = some (gp, cellO c)) (hr : RefC γ 2 3 gr c) (hc : c.Ok) (d : Nat) (t i v : Int) (hm : (d : Int) % 10 = 4) :
    Calls Try.prog 28 #[.pointer (some ⟨gp, 0, none⟩), .pointer (some ⟨gr, 0, none⟩), .agg #[.int .u8 d, .int .i64 t, .int .i64 i, .int .i64 v]] w (doesPost w0 γ gp gr (c.begin t)) := by
  have h0 := Duo.start ho hp hr (actO d t i v)
  obtain ⟨e0, e1, e2, e3⟩ := h0.cells
  have h1 : Hid (Duo w0 γ gp gr w.heap.size (actO d t i v) c c (w.alloc (actO d t i v))) := h0
  unfold actO at e0 e1 e2 e3
  clear ho hp hr h0
  go_enter Try.func28, Try.ntmps28
  go_wp2_with fail
  have h2 := h1.out
  have h2 := h2.drew
  clear h1
  go_region_held3 (fun w' => w'.cell? ⟨w.heap.size, 1, none⟩ = some (.int .i64 t) ∧ w'.cell? ⟨w.heap.size, 2, none⟩ = some (.int .i64 i) ∧ w'.cell? ⟨w.heap.size, 3, none⟩ = some (.int .i64 v)) (first | go_keep | exact ⟨by assumption, by assumption, by assumption⟩)
    (first | (go_at_call 36; refine (duo_begin (by assumption) hc t).mono ?_; (rintro e w' ⟨rfl, h9⟩; obtain ⟨q0, q1, q2, q3⟩ := h9.cells; rw [ans_eq])) | (go_at_call 53; refine (duo_rbegin (by assumption) hc t).mono ?_; (rintro e w' ⟨rfl, h9⟩; obtain ⟨q0, q1, q2, q3⟩ := h9.cells; rw [ans_eq])))
  all_goals go_wp2
  all_goals go_ret
  all_goals exact Duo.post (by assumption)

set_option maxRecDepth 100000 in
set_option maxHeartbeats 4000000 in
theorem does5 (ho : Own w0 w γ) (hp : γ 1 = some (gp, cellO c)) (hr : RefC γ 2 3 gr c) (hc : c.Ok) (d : Nat) (t i v : Int) (hm : (d : Int) % 10 = 5) :
    Calls Try.prog 28 #[.pointer (some ⟨gp, 0, none⟩), .pointer (some ⟨gr, 0, none⟩), .agg #[.int .u8 d, .int .i64 t, .int .i64 i, .int .i64 v]] w (doesPost w0 γ gp gr (c.end_ t)) := by
  have h0 := Duo.start ho hp hr (actO d t i v)
  obtain ⟨e0, e1, e2, e3⟩ := h0.cells
  have h1 : Hid (Duo w0 γ gp gr w.heap.size (actO d t i v) c c (w.alloc (actO d t i v))) := h0
  unfold actO at e0 e1 e2 e3
  clear ho hp hr h0
  go_enter Try.func28, Try.ntmps28
  go_wp2_with fail
  have h2 := h1.out
  have h2 := h2.drew
  clear h1
  go_region_held3 (fun w' => w'.cell? ⟨w.heap.size, 1, none⟩ = some (.int .i64 t) ∧ w'.cell? ⟨w.heap.size, 2, none⟩ = some (.int .i64 i) ∧ w'.cell? ⟨w.heap.size, 3, none⟩ = some (.int .i64 v)) (first | go_keep | exact ⟨by assumption, by assumption, by assumption⟩)
    (first | (go_at_call 38; refine (duo_end (by assumption) hc t).mono ?_; (rintro e w' ⟨rfl, h9⟩; obtain ⟨q0, q1, q2, q3⟩ := h9.cells; rw [ans_eq])) | (go_at_call 54; refine (duo_rend (by assumption) hc t).mono ?_; (rintro e w' ⟨rfl, h9⟩; obtain ⟨q0, q1, q2, q3⟩ := h9.cells; rw [ans_eq])))
  all_goals go_wp2
  all_goals go_ret
  all_goals exact Duo.post (by assumption)

set_option maxRecDepth 100000 in
set_option maxHeartbeats 4000000 in
theorem does6 (ho : Own w0 w γ) (hp : γ 1 = some (gp, cellO c)) (hr : RefC γ 2 3 gr c) (hc : c.Ok) (d : Nat) (t i v : Int) (hm : (d : Int) % 10 = 6) :
    Calls Try.prog 28 #[.pointer (some ⟨gp, 0, none⟩), .pointer (some ⟨gr, 0, none⟩), .agg #[.int .u8 d, .int .i64 t, .int .i64 i, .int .i64 v]] w (doesPost w0 γ gp gr (c.end_ t)) := by
  have h0 := Duo.start ho hp hr (actO d t i v)
  obtain ⟨e0, e1, e2, e3⟩ := h0.cells
  have h1 : Hid (Duo w0 γ gp gr w.heap.size (actO d t i v) c c (w.alloc (actO d t i v))) := h0
  unfold actO at e0 e1 e2 e3
  clear ho hp hr h0
  go_enter Try.func28, Try.ntmps28
  go_wp2_with fail
  have h2 := h1.out
  have h2 := h2.drew
  clear h1
  go_region_held3 (fun w' => w'.cell? ⟨w.heap.size, 1, none⟩ = some (.int .i64 t) ∧ w'.cell? ⟨w.heap.size, 2, none⟩ = some (.int .i64 i) ∧ w'.cell? ⟨w.heap.size, 3, none⟩ = some (.int .i64 v)) (first | go_keep | exact ⟨by assumption, by assumption, by assumption⟩)
    (first | (go_at_call 38; refine (duo_end (by assumption) hc t).mono ?_; (rintro e w' ⟨rfl, h9⟩; obtain ⟨q0, q1, q2, q3⟩ := h9.cells; rw [ans_eq])) | (go_at_call 54; refine (duo_rend (by assumption) hc t).mono ?_; (rintro e w' ⟨rfl, h9⟩; obtain ⟨q0, q1, q2, q3⟩ := h9.cells; rw [ans_eq])))
  all_goals go_wp2
  all_goals go_ret
  all_goals exact Duo.post (by assumption)

set_option maxRecDepth 100000 in
set_option maxHeartbeats 4000000 in
theorem does7 (ho : Own w0 w γ) (hp : γ 1 = some (gp, cellO c)) (hr : RefC γ 2 3 gr c) (hc : c.Ok) (d : Nat) (t i v : Int) (m0 : ((d : Int) % 10 == 0) = false) (m1 : ((d : Int) % 10 == 1) = false) (m2 : ((d : Int) % 10 == 2) = false) (m3 : ((d : Int) % 10 == 3) = false) (m4 : ((d : Int) % 10 == 4) = false) (m5 : ((d : Int) % 10 == 5) = false) (m6 : ((d : Int) % 10 == 6) = false) :
    Calls Try.prog 28 #[.pointer (some ⟨gp, 0, none⟩), .pointer (some ⟨gr, 0, none⟩), .agg #[.int .u8 d, .int .i64 t, .int .i64 i, .int .i64 v]] w (doesPost w0 γ gp gr (c.put t i v)) := by
  have h0 := Duo.start ho hp hr (actO d t i v)
  obtain ⟨e0, e1, e2, e3⟩ := h0.cells
  have h1 : Hid (Duo w0 γ gp gr w.heap.size (actO d t i v) c c (w.alloc (actO d t i v))) := h0
  unfold actO at e0 e1 e2 e3
  clear ho hp hr h0
  go_enter Try.func28, Try.ntmps28
  go_wp2_with fail
  have h2 := h1.out
  have h2 := h2.drew
  clear h1
  go_region_held3 (fun w' => w'.cell? ⟨w.heap.size, 1, none⟩ = some (.int .i64 t) ∧ w'.cell? ⟨w.heap.size, 2, none⟩ = some (.int .i64 i) ∧ w'.cell? ⟨w.heap.size, 3, none⟩ = some (.int .i64 v)) (first | go_keep | exact ⟨by assumption, by assumption, by assumption⟩)
    (first | (go_at_call 37; refine (duo_put (by assumption) hc t i v).mono ?_; (rintro e w' ⟨rfl, h9⟩; obtain ⟨q0, q1, q2, q3⟩ := h9.cells; rw [ans_eq])) | (go_at_call 55; refine (duo_rput (by assumption) hc t i v).mono ?_; (rintro e w' ⟨rfl, h9⟩; obtain ⟨q0, q1, q2, q3⟩ := h9.cells; rw [ans_eq])))
  all_goals go_wp2
  all_goals go_ret
  all_goals exact Duo.post (by assumption)

end
end Go.Proofs.Ytniiefcbiapieaa
