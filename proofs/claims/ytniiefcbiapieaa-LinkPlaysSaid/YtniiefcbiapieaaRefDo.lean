/- What the reference's Do comes to. -/
import Derived.Test.YtniiefcbiapieaaRefFg
import Derived.Test.YtniiefcbiapieaaDoAny
namespace Go.Proofs.Ytniiefcbiapieaa
open Go.RowKit Go.ChangeMaps Go.WideShapes

theorem cell_on {w : World} {p : Addr} {v : Value} (h : w.cell? p = some v) (o : Obj) : (w.alloc o).cell? p = some v :=
  (((Below.refl w.heap.size w).alloc (Nat.le_refl _) o).cell (World.block_lt_of_cell? _ _ h)).trans h

def rdPost (w0 : World) (γ : Nat → Option (Nat × Obj)) (r gr : Nat) (A : Option Addr) (cap q : Nat) (x : Int × Int × Int × LS) (e : Ending) (w' : World) : Prop :=
  e = .returned (.tuple #[.int .i64 x.1, .int .i64 x.2.1, .int .i64 x.2.2.1]) ∧ ∃ γ', RefL w0 γ' r gr A cap q x.2.2.2 w' ∧ ∀ k, (k < r ∨ r + 50 ≤ k) → γ' k = γ k

section
variable {w0 w : World} {γ : Nat → Option (Nat × Obj)} {r gr cap q : Nat} {A : Option Addr} {s : LS}

theorem RefL.drewN (h : RefL w0 γ r gr A cap q s w) (n : Nat) : RefL w0 γ r gr A cap q s (w.drewN n) := h.keep (h.own.drewN n) fun _ _ => rfl
theorem RefL.drew (h : RefL w0 γ r gr A cap q s w) : RefL w0 γ r gr A cap q s w.drew := h.keep h.own.drew fun _ _ => rfl
theorem RefL.box (h : RefL w0 γ r gr A cap q s w) (t : Nat) (ht : r + 5 ≤ t ∧ t < r + 10) (o : Obj) : RefL w0 (put γ t w.heap.size o) r gr A cap q s (w.alloc o) :=
  h.keep (h.own.new t o) fun k hk => put_other _ _ _ (by omega)

/-- One end is another now. -/
theorem RefL.turn {γ' : Nat → Option (Nat × Obj)} {w' : World} {j : Nat} {l : LinkS} {e' : EndS} (h : RefL w0 γ r gr A cap q s w) (ho : Own w0 w' γ') (hl : s.ls[j]? = some l)
    (hk : ∀ k, (r ≤ k ∧ k < r + 5) ∨ (r + 10 ≤ k ∧ k < r + 10 + 4 * s.ls.length ∧ (k < r + 10 + 4 * j ∨ r + 14 + 4 * j ≤ k)) → γ' k = γ k)
    (he : ∀ vc vp nx, RefEnd γ (r + 10 + 4 * j) vc vp nx l (s.en j) → RefEnd γ' (r + 10 + 4 * j) vc vp nx l e') : RefL w0 γ' r gr A cap q { s with en := updE s.en j e' } w' := by
  obtain ⟨_, hin, cv, pv, nv, rv, vc, vp, nx, rd, h0, h1, h2, h3, h4, h5, h6, h7⟩ := h
  have hj : j < s.ls.length := (List.getElem?_eq_some_iff.1 hl).1
  refine ⟨ho, hin, cv, pv, nv, rv, vc, vp, nx, rd, by rw [hk _ (by omega)]; exact h0, h1.keep (hk _ (by omega)), h2.keep (hk _ (by omega)), h3.keep (hk _ (by omega)), h4.keep (hk _ (by omega)), h5, h6, fun i l' hi => ?_⟩
  have hil : i < s.ls.length := (List.getElem?_eq_some_iff.1 hi).1
  by_cases e : i = j
  · subst e
    have hi' : s.ls[i]? = some l' := hi
    rw [hl] at hi'
    cases hi'
    show RefEnd _ _ _ _ _ _ (updE s.en i e' i)
    rw [show updE s.en i e' i = e' from if_pos rfl]
    exact he _ _ _ (h7 i l hl)
  · show RefEnd _ _ _ _ _ _ (updE s.en j e' i)
    rw [show updE s.en j e' i = s.en i from if_neg e]
    exact (h7 i l' hi).keep fun k _ _ => hk k (by omega)

/-- How far a pump was read is another now. -/
theorem RefL.next {j : Nat} {l : LinkS} {e' : EndS} {x : Int} (h : RefL w0 γ r gr A cap q s w) (hl : s.ls[j]? = some l) (g3 c3 : Nat) (h3c : w.cell? ⟨gr, 3, none⟩ = some (.slice (some ⟨g3, 0, none⟩) s.ls.length c3))
    (he : ∀ vc vp nx, RefEnd γ (r + 10 + 4 * j) vc vp nx l (s.en j) → RefEnd γ (r + 10 + 4 * j) vc vp x l e') :
    (∃ u, w.cell? ⟨g3, j, none⟩ = some u) ∧ w.frozen? ⟨g3, j, none⟩ = false ∧ ∃ γ', RefL w0 γ' r gr A cap q { s with en := updE s.en j e' } (w.setCell ⟨g3, j, none⟩ (.int .i64 x)) ∧ ∀ k, k ≠ r + 3 → γ' k = γ k := by
  obtain ⟨ho, hin, cv, pv, nv, rv, vc, vp, nx, rd, h0, h1, h2, h3, h4, h5, h6, h7⟩ := h
  have hj : j < s.ls.length := (List.getElem?_eq_some_iff.1 hl).1
  obtain ⟨g, c, rfl, hc, hf, hs⟩ := h3.set1 ho hj
  rw [ho.cell h0 (i := 3) rfl] at h3c
  cases h3c
  obtain ⟨γ', ho', hs', hk⟩ := hs (.int .i64 x)
  have hset : (ints nx).set j (.int .i64 x) = ints (nx.set j x) := by simp [ints, List.map_set]
  have hnl : nx.length = s.ls.length := by have := h3.1; rw [ints_length] at this; omega
  rw [hset] at hs'
  refine ⟨⟨_, hc⟩, hf, γ', ⟨ho', hin, cv, pv, _, rv, vc, vp, nx.set j x, rd, (hk _ (by omega)).trans h0, h1.keep (hk _ (by omega)), h2.keep (hk _ (by omega)), hs', h4.keep (hk _ (by omega)), h5, h6, fun i l' hi => ?_⟩, hk⟩
  have hil : i < s.ls.length := (List.getElem?_eq_some_iff.1 hi).1
  by_cases e : i = j
  · subst e
    have hi' : s.ls[i]? = some l' := hi
    rw [hl] at hi'
    cases hi'
    have e1 : (nx.set i x).getD i 0 = x := by rw [List.getD_eq_getElem?_getD, List.getElem?_set_self (by omega)]; rfl
    show RefEnd _ _ _ _ _ _ (updE s.en i e' i)
    rw [show updE s.en i e' i = e' from if_pos rfl, e1]
    exact (he _ _ _ (h7 i l hl)).keep fun k _ _ => hk k (by omega)
  · have e1 : (nx.set j x).getD i 0 = nx.getD i 0 := by rw [List.getD_eq_getElem?_getD, List.getElem?_set_ne (by omega), ← List.getD_eq_getElem?_getD]
    show RefEnd _ _ _ _ _ _ (updE s.en j e' i)
    rw [show updE s.en j e' i = s.en i from if_neg e, e1]
    exact (h7 i l' hi).keep fun k _ _ => hk k (by omega)

set_option maxRecDepth 100000 in
set_option maxHeartbeats 4000000 in
theorem rdo_low (h : RefL w0 γ r gr A cap q s w) (d t k dm pk op a b' v : Int) (hop : op < 27) :
    Calls Try.prog 47 #[.pointer (some ⟨gr, 0, none⟩), .int .i64 d, .int .i64 t, .agg #[.int .i64 k, .int .i64 dm, .int .i64 pk, .int .i64 op, .int .i64 a, .int .i64 b', .int .i64 v]] w (rdPost w0 γ r gr A cap (q + 1) (1, 0, 0, s)) := by
  have h1 := (h.box (r + 6) (by omega) (entO k dm pk op a b' v)).more (Nat.le_succ q)
  have hk6 := put_same γ (r + 6) w.heap.size (entO k dm pk op a b' v)
  have hrest : ∀ t, (t < r ∨ r + 50 ≤ t) → put γ (r + 6) w.heap.size (entO k dm pk op a b' v) t = γ t := fun t ht => put_other _ _ _ (by omega)
  unfold entO at h1 hk6 hrest
  generalize put γ (r + 6) _ _ = γ1 at *
  have H1 := Lib.hid h1
  have HK := Lib.hid hrest
  have c0 := h1.len
  have e3 := h1.own.cell hk6 (i := 3) (v := .int .i64 op) rfl
  have e4 := h1.own.cell hk6 (i := 4) (v := .int .i64 a) rfl
  clear c0 e4
  clear h h1 hrest hk6
  go_enter Try.func47, Try.ntmps47
  go_wp2_with fail
  refine bodyPost_ret (results_tmp3 rfl _ _ _) rfl ?_
  exact ⟨rfl, _, H1.out, HK.out⟩

set_option maxRecDepth 100000 in
set_option maxHeartbeats 4000000 in
theorem rdo_high (h : RefL w0 γ r gr A cap q s w) (d t k dm pk op a b' v : Int) (hop : 34 < op) :
    Calls Try.prog 47 #[.pointer (some ⟨gr, 0, none⟩), .int .i64 d, .int .i64 t, .agg #[.int .i64 k, .int .i64 dm, .int .i64 pk, .int .i64 op, .int .i64 a, .int .i64 b', .int .i64 v]] w (rdPost w0 γ r gr A cap (q + 1) (1, 0, 0, s)) := by
  have h1 := (h.box (r + 6) (by omega) (entO k dm pk op a b' v)).more (Nat.le_succ q)
  have hk6 := put_same γ (r + 6) w.heap.size (entO k dm pk op a b' v)
  have hrest : ∀ t, (t < r ∨ r + 50 ≤ t) → put γ (r + 6) w.heap.size (entO k dm pk op a b' v) t = γ t := fun t ht => put_other _ _ _ (by omega)
  unfold entO at h1 hk6 hrest
  generalize put γ (r + 6) _ _ = γ1 at *
  have H1 := Lib.hid h1
  have HK := Lib.hid hrest
  have c0 := h1.len
  have e3 := h1.own.cell hk6 (i := 3) (v := .int .i64 op) rfl
  have e4 := h1.own.cell hk6 (i := 4) (v := .int .i64 a) rfl
  clear c0 e4
  clear h h1 hrest hk6
  go_enter Try.func47, Try.ntmps47
  go_wp2_with fail
  refine bodyPost_ret (results_tmp3 rfl _ _ _) rfl ?_
  exact ⟨rfl, _, H1.out, HK.out⟩

set_option maxRecDepth 100000 in
set_option maxHeartbeats 4000000 in
theorem rdo_neg (h : RefL w0 γ r gr A cap q s w) (d t k dm pk op a b' v : Int) (hlo : 27 ≤ op) (hhi : op ≤ 34) (ha : a < 0) :
    Calls Try.prog 47 #[.pointer (some ⟨gr, 0, none⟩), .int .i64 d, .int .i64 t, .agg #[.int .i64 k, .int .i64 dm, .int .i64 pk, .int .i64 op, .int .i64 a, .int .i64 b', .int .i64 v]] w (rdPost w0 γ r gr A cap (q + 1) (7, 0, 0, s)) := by
  have h1 := (h.box (r + 6) (by omega) (entO k dm pk op a b' v)).more (Nat.le_succ q)
  have hk6 := put_same γ (r + 6) w.heap.size (entO k dm pk op a b' v)
  have hrest : ∀ t, (t < r ∨ r + 50 ≤ t) → put γ (r + 6) w.heap.size (entO k dm pk op a b' v) t = γ t := fun t ht => put_other _ _ _ (by omega)
  unfold entO at h1 hk6 hrest
  generalize put γ (r + 6) _ _ = γ1 at *
  have H1 := Lib.hid h1
  have HK := Lib.hid hrest
  have c0 := h1.len
  have e3 := h1.own.cell hk6 (i := 3) (v := .int .i64 op) rfl
  have e4 := h1.own.cell hk6 (i := 4) (v := .int .i64 a) rfl
  have d1 : decide (a < 0) = true := by simpa using ha
  clear c0
  clear h h1 hrest hk6
  go_enter Try.func47, Try.ntmps47
  go_wp2_with fail
  go_quiet (fail)
  go_wp2_with fail
  refine bodyPost_ret (results_tmp3 rfl _ _ _) rfl ?_
  exact ⟨rfl, _, H1.out.drewN _, HK.out⟩

set_option maxRecDepth 100000 in
set_option maxHeartbeats 4000000 in
theorem rdo_far (h : RefL w0 γ r gr A cap q s w) (d t k dm pk op a b' v : Int) (hlo : 27 ≤ op) (hhi : op ≤ 34) (ha : (s.ls.length : Int) ≤ a) :
    Calls Try.prog 47 #[.pointer (some ⟨gr, 0, none⟩), .int .i64 d, .int .i64 t, .agg #[.int .i64 k, .int .i64 dm, .int .i64 pk, .int .i64 op, .int .i64 a, .int .i64 b', .int .i64 v]] w (rdPost w0 γ r gr A cap (q + 1) (7, 0, 0, s)) := by
  have h1 := (h.box (r + 6) (by omega) (entO k dm pk op a b' v)).more (Nat.le_succ q)
  have hk6 := put_same γ (r + 6) w.heap.size (entO k dm pk op a b' v)
  have hrest : ∀ t, (t < r ∨ r + 50 ≤ t) → put γ (r + 6) w.heap.size (entO k dm pk op a b' v) t = γ t := fun t ht => put_other _ _ _ (by omega)
  unfold entO at h1 hk6 hrest
  generalize put γ (r + 6) _ _ = γ1 at *
  have H1 := Lib.hid h1
  have HK := Lib.hid hrest
  have c0 := h1.len
  have e3 := h1.own.cell hk6 (i := 3) (v := .int .i64 op) rfl
  have e4 := h1.own.cell hk6 (i := 4) (v := .int .i64 a) rfl
  have d1 : decide (a < 0) = false := by simp; omega
  have d2 : decide ((s.ls.length : Int) ≤ a) = true := by simpa using ha
  clear h h1 hrest hk6
  go_enter Try.func47, Try.ntmps47
  go_wp2_with fail
  go_quiet (fail)
  go_wp2_with fail
  refine bodyPost_ret (results_tmp3 rfl _ _ _) rfl ?_
  exact ⟨rfl, _, H1.out.drewN _, HK.out⟩

set_option maxRecDepth 100000 in
set_option maxHeartbeats 8000000 in
theorem rdo_kind1 (h : RefL w0 γ r gr A cap q s w) (hq : q < 999) (d t k dm pk op b' v : Int) {j : Nat} {fr tow size : Int} (hl : s.ls[j]? = some ⟨1, fr, tow, size⟩) (hlo : 33 ≤ op) (hhi : op ≤ 34) :
    Calls Try.prog 47 #[.pointer (some ⟨gr, 0, none⟩), .int .i64 d, .int .i64 t, .agg #[.int .i64 k, .int .i64 dm, .int .i64 pk, .int .i64 op, .int .i64 j, .int .i64 b', .int .i64 v]] w (rdPost w0 γ r gr A cap (q + 1) (8, 0, 0, s)) := by
  have hj : j < s.ls.length := (List.getElem?_eq_some_iff.1 hl).1
  have h10 : s.ls.length ≤ 10 := h.2.1.1
  have h1 := h.box (r + 6) (by omega) (entO k dm pk op j b' v)
  have hk6 := put_same γ (r + 6) w.heap.size (entO k dm pk op j b' v)
  have hrest : ∀ t, (t < r ∨ r + 50 ≤ t) → put γ (r + 6) w.heap.size (entO k dm pk op j b' v) t = γ t := fun t ht => put_other _ _ _ (by omega)
  unfold entO at h1 hk6 hrest
  generalize put γ (r + 6) _ _ = γ1 at *
  have H1 := Lib.hid h1
  have HK := Lib.hid hrest
  have HL := Lib.hid hl
  have c0 := h1.len
  have e4 := h1.own.cell hk6 (i := 4) (v := .int .i64 j) rfl
  have d1 : decide ((j : Int) < 0) = false := by simp
  have d2 : decide ((s.ls.length : Int) ≤ j) = false := by simp; omega
  have b33 : decide (op < 33) = false := by simp; omega
  clear h h1 hrest hl
  go_enter Try.func47, Try.ntmps47
  go_wp2_with fail
  generalize hW : w.alloc _ = W at *
  generalize w.heap.size = gx at *
  clear hW
  go_quiet (fail)
  clear c0 e4
  have h2 := H1.out.drewN nq
  generalize W.drewN nq = W2 at *
  obtain ⟨vc, vp, nx, pb, off, g1, c1, g2, c2, g3, c3, rv, ⟨rfl, c0, c1', c2', c3', c4', q0, q1, q2, q3, uc, up, un⟩, hend⟩ := h2.at_ HL.out
  dsimp only at q0 q1 q2 q3
  have e4 := h2.own.cell hk6 (i := 4) (v := .int .i64 j) rfl
  have hjn : (j : Int) < s.ls.length := by omega
  have H2 := Lib.hid h2
  clear h2 d1 d2
  go_wp2_with fail
  refine Perm.wp_region_pre [0, 1, 2, 3, 4, 5, 6, 7] [8, 9] (fun w' => w'.cell? ⟨gr, 0, none⟩ = some (.slice (some ⟨pb, off, none⟩) s.ls.length cap) ∧ w'.cell? ⟨gx, 4, none⟩ = some (.int .i64 j) ∧ w'.cell? ⟨pb, off + j * 4, none⟩ = some (.int .i64 1) ∧ w'.cell? ⟨pb, off + j * 4 + 1, none⟩ = some (.int .i64 fr) ∧ w'.cell? ⟨pb, off + j * 4 + 2, none⟩ = some (.int .i64 tow) ∧ w'.cell? ⟨pb, off + j * 4 + 3, none⟩ = some (.int .i64 size)) (by kernel_rfl) (by kernel_rfl) (fun _ _ _ _ _ h => h) (by refine ⟨?_, ?_, ?_, ?_, ?_, ?_⟩ <;> simpa using by assumption) ?_
  repeat
    refine Perm.light_step rfl ?_ (fun w' hS => ?_) ?_
    rotate_left
    · (obtain ⟨s0, s1, s2, s3, s4, s5⟩ := hS; go_simp; try with_reducible rfl)
    simp only [Act.put, List.getElem_toArray, List.getElem_cons_zero, List.getElem_cons_succ, List.setIfInBounds_toArray, List.set_cons_zero, List.set_cons_succ]
  refine Perm.light_nil ?_
  have h3 := H2.out.drew.box (r + 7) (by omega) (.cells #[.int .i64 1, .int .i64 fr, .int .i64 tow, .int .i64 size] 78)
  have k7 := put_same γ1 (r + 7) W2.drew.heap.size (.cells #[.int .i64 1, .int .i64 fr, .int .i64 tow, .int .i64 size] 78)
  have k6 : put γ1 (r + 7) W2.drew.heap.size (.cells #[.int .i64 1, .int .i64 fr, .int .i64 tow, .int .i64 size] 78) (r + 6) = _ := (put_other _ _ _ (by omega)).trans hk6
  have krest : ∀ t, t ≠ r + 7 → put γ1 (r + 7) W2.drew.heap.size (.cells #[.int .i64 1, .int .i64 fr, .int .i64 tow, .int .i64 size] 78) t = γ1 t := fun t ht => put_other _ _ _ ht
  refine Perm.tail_run rfl (by rfl) (.value (.pointer (some ⟨W2.drew.heap.size, 0, none⟩))) _ (.inl rfl) (w' := W2.drew.alloc (.cells #[.int .i64 0, .int .i64 0, .int .i64 0, .int .i64 0] 78)) (by go_simp; try with_reducible rfl) (fun _ hS => ⟨cell_on hS.1 _, cell_on hS.2.1 _, cell_on hS.2.2.1 _, cell_on hS.2.2.2.1 _, cell_on hS.2.2.2.2.1 _, cell_on hS.2.2.2.2.2 _⟩) ?_
  simp only [Act.put, List.getElem_toArray, List.getElem_cons_zero, List.getElem_cons_succ, List.setIfInBounds_toArray, List.set_cons_zero, List.set_cons_succ]
  refine Perm.tail_run rfl (by rfl) .skip undef (.inr ⟨rfl, rfl⟩) (w' := W2.drew.alloc (.cells #[.int .i64 1, .int .i64 fr, .int .i64 tow, .int .i64 size] 78)) (by go_simp; try with_reducible rfl) (Perm.no_need (by kernel_rfl)) ?_
  simp only [Act.put, List.getElem_toArray, List.getElem_cons_zero, List.getElem_cons_succ, List.setIfInBounds_toArray, List.set_cons_zero, List.set_cons_succ]
  refine Perm.tail_nil ?_
  generalize put γ1 (r + 7) _ _ = γ3 at *
  generalize W2.drew.alloc _ = W3 at *
  generalize W2.drew.heap.size = gy at *
  clear c0 c1' c2' c3' c4' q0 q1 q2 q3 uc up un e4 hend hk6
  obtain ⟨vc, vp, nx, pb', off', g1, c1, g2, c2, g3, c3, rv, ⟨hA', c0, c1', c2', c3', c4', q0, q1, q2, q3, uc, up, un⟩, hend⟩ := h3.at_ HL.out
  cases hA'
  clear q0 q1 q2 q3
  have e3 := h3.own.cell k6 (i := 3) (v := .int .i64 op) rfl
  have e4 := h3.own.cell k6 (i := 4) (v := .int .i64 j) rfl
  have e5 := h3.own.cell k6 (i := 5) (v := .int .i64 b') rfl
  have e6 := h3.own.cell k6 (i := 6) (v := .int .i64 v) rfl
  have l0 := h3.own.cell k7 (i := 0) (v := .int .i64 1) rfl
  have l1 := h3.own.cell k7 (i := 1) (v := .int .i64 fr) rfl
  have l2 := h3.own.cell k7 (i := 2) (v := .int .i64 tow) rfl
  have H3 := Lib.hid h3
  have HR : Hid (∀ t, (t < r ∨ r + 50 ≤ t) → γ3 t = γ t) := Lib.hid fun t ht => (krest t (by omega)).trans (HK.out t ht)
  clear h3 H1 H2 HK krest
  clear hend
  go_wp2_with fail
  refine bodyPost_ret (results_tmp3 rfl _ _ _) rfl ?_
  exact ⟨rfl, _, H3.out.more (Nat.le_succ q), HR.out⟩

set_option maxRecDepth 100000 in
set_option maxHeartbeats 8000000 in
theorem rdo_kind2 (h : RefL w0 γ r gr A cap q s w) (hq : q < 999) (d t k dm pk op b' v : Int) {j : Nat} {kind fr tow size : Int} (hl : s.ls[j]? = some ⟨kind, fr, tow, size⟩) (hkd : kind ≠ 1) (hlo : 27 ≤ op) (hhi : op ≤ 32) :
    Calls Try.prog 47 #[.pointer (some ⟨gr, 0, none⟩), .int .i64 d, .int .i64 t, .agg #[.int .i64 k, .int .i64 dm, .int .i64 pk, .int .i64 op, .int .i64 j, .int .i64 b', .int .i64 v]] w (rdPost w0 γ r gr A cap (q + 1) (8, 0, 0, s)) := by
  have hj : j < s.ls.length := (List.getElem?_eq_some_iff.1 hl).1
  have h10 : s.ls.length ≤ 10 := h.2.1.1
  have h1 := h.box (r + 6) (by omega) (entO k dm pk op j b' v)
  have hk6 := put_same γ (r + 6) w.heap.size (entO k dm pk op j b' v)
  have hrest : ∀ t, (t < r ∨ r + 50 ≤ t) → put γ (r + 6) w.heap.size (entO k dm pk op j b' v) t = γ t := fun t ht => put_other _ _ _ (by omega)
  unfold entO at h1 hk6 hrest
  generalize put γ (r + 6) _ _ = γ1 at *
  have H1 := Lib.hid h1
  have HK := Lib.hid hrest
  have HL := Lib.hid hl
  have c0 := h1.len
  have e4 := h1.own.cell hk6 (i := 4) (v := .int .i64 j) rfl
  have d1 : decide ((j : Int) < 0) = false := by simp
  have d2 : decide ((s.ls.length : Int) ≤ j) = false := by simp; omega
  have b33 : decide (op < 33) = true := by simp; omega
  have bk : (kind == 1) = false := by simpa using hkd
  clear hkd
  clear h h1 hrest hl
  go_enter Try.func47, Try.ntmps47
  go_wp2_with fail
  generalize hW : w.alloc _ = W at *
  generalize w.heap.size = gx at *
  clear hW
  go_quiet (fail)
  clear c0 e4
  have h2 := H1.out.drewN nq
  generalize W.drewN nq = W2 at *
  obtain ⟨vc, vp, nx, pb, off, g1, c1, g2, c2, g3, c3, rv, ⟨rfl, c0, c1', c2', c3', c4', q0, q1, q2, q3, uc, up, un⟩, hend⟩ := h2.at_ HL.out
  dsimp only at q0 q1 q2 q3
  have e4 := h2.own.cell hk6 (i := 4) (v := .int .i64 j) rfl
  have hjn : (j : Int) < s.ls.length := by omega
  have H2 := Lib.hid h2
  clear h2 d1 d2
  go_wp2_with fail
  refine Perm.wp_region_pre [0, 1, 2, 3, 4, 5, 6, 7] [8, 9] (fun w' => w'.cell? ⟨gr, 0, none⟩ = some (.slice (some ⟨pb, off, none⟩) s.ls.length cap) ∧ w'.cell? ⟨gx, 4, none⟩ = some (.int .i64 j) ∧ w'.cell? ⟨pb, off + j * 4, none⟩ = some (.int .i64 kind) ∧ w'.cell? ⟨pb, off + j * 4 + 1, none⟩ = some (.int .i64 fr) ∧ w'.cell? ⟨pb, off + j * 4 + 2, none⟩ = some (.int .i64 tow) ∧ w'.cell? ⟨pb, off + j * 4 + 3, none⟩ = some (.int .i64 size)) (by kernel_rfl) (by kernel_rfl) (fun _ _ _ _ _ h => h) (by refine ⟨?_, ?_, ?_, ?_, ?_, ?_⟩ <;> simpa using by assumption) ?_
  repeat
    refine Perm.light_step rfl ?_ (fun w' hS => ?_) ?_
    rotate_left
    · (obtain ⟨s0, s1, s2, s3, s4, s5⟩ := hS; go_simp; try with_reducible rfl)
    simp only [Act.put, List.getElem_toArray, List.getElem_cons_zero, List.getElem_cons_succ, List.setIfInBounds_toArray, List.set_cons_zero, List.set_cons_succ]
  refine Perm.light_nil ?_
  have h3 := H2.out.drew.box (r + 7) (by omega) (.cells #[.int .i64 kind, .int .i64 fr, .int .i64 tow, .int .i64 size] 78)
  have k7 := put_same γ1 (r + 7) W2.drew.heap.size (.cells #[.int .i64 kind, .int .i64 fr, .int .i64 tow, .int .i64 size] 78)
  have k6 : put γ1 (r + 7) W2.drew.heap.size (.cells #[.int .i64 kind, .int .i64 fr, .int .i64 tow, .int .i64 size] 78) (r + 6) = _ := (put_other _ _ _ (by omega)).trans hk6
  have krest : ∀ t, t ≠ r + 7 → put γ1 (r + 7) W2.drew.heap.size (.cells #[.int .i64 kind, .int .i64 fr, .int .i64 tow, .int .i64 size] 78) t = γ1 t := fun t ht => put_other _ _ _ ht
  refine Perm.tail_run rfl (by rfl) (.value (.pointer (some ⟨W2.drew.heap.size, 0, none⟩))) _ (.inl rfl) (w' := W2.drew.alloc (.cells #[.int .i64 0, .int .i64 0, .int .i64 0, .int .i64 0] 78)) (by go_simp; try with_reducible rfl) (fun _ hS => ⟨cell_on hS.1 _, cell_on hS.2.1 _, cell_on hS.2.2.1 _, cell_on hS.2.2.2.1 _, cell_on hS.2.2.2.2.1 _, cell_on hS.2.2.2.2.2 _⟩) ?_
  simp only [Act.put, List.getElem_toArray, List.getElem_cons_zero, List.getElem_cons_succ, List.setIfInBounds_toArray, List.set_cons_zero, List.set_cons_succ]
  refine Perm.tail_run rfl (by rfl) .skip undef (.inr ⟨rfl, rfl⟩) (w' := W2.drew.alloc (.cells #[.int .i64 kind, .int .i64 fr, .int .i64 tow, .int .i64 size] 78)) (by go_simp; try with_reducible rfl) (Perm.no_need (by kernel_rfl)) ?_
  simp only [Act.put, List.getElem_toArray, List.getElem_cons_zero, List.getElem_cons_succ, List.setIfInBounds_toArray, List.set_cons_zero, List.set_cons_succ]
  refine Perm.tail_nil ?_
  generalize put γ1 (r + 7) _ _ = γ3 at *
  generalize W2.drew.alloc _ = W3 at *
  generalize W2.drew.heap.size = gy at *
  clear c0 c1' c2' c3' c4' q0 q1 q2 q3 uc up un e4 hend hk6
  obtain ⟨vc, vp, nx, pb', off', g1, c1, g2, c2, g3, c3, rv, ⟨hA', c0, c1', c2', c3', c4', q0, q1, q2, q3, uc, up, un⟩, hend⟩ := h3.at_ HL.out
  cases hA'
  clear q0 q1 q2 q3
  have e3 := h3.own.cell k6 (i := 3) (v := .int .i64 op) rfl
  have e4 := h3.own.cell k6 (i := 4) (v := .int .i64 j) rfl
  have e5 := h3.own.cell k6 (i := 5) (v := .int .i64 b') rfl
  have e6 := h3.own.cell k6 (i := 6) (v := .int .i64 v) rfl
  have l0 := h3.own.cell k7 (i := 0) (v := .int .i64 kind) rfl
  have l1 := h3.own.cell k7 (i := 1) (v := .int .i64 fr) rfl
  have l2 := h3.own.cell k7 (i := 2) (v := .int .i64 tow) rfl
  have H3 := Lib.hid h3
  have HR : Hid (∀ t, (t < r ∨ r + 50 ≤ t) → γ3 t = γ t) := Lib.hid fun t ht => (krest t (by omega)).trans (HK.out t ht)
  clear h3 H1 H2 HK krest
  clear hend
  go_wp2_with fail
  refine bodyPost_ret (results_tmp3 rfl _ _ _) rfl ?_
  exact ⟨rfl, _, H3.out.more (Nat.le_succ q), HR.out⟩

set_option maxRecDepth 100000 in
set_option maxHeartbeats 8000000 in
theorem rdo_side1 (h : RefL w0 γ r gr A cap q s w) (hq : q < 999) (d t k dm pk op b' v : Int) {j : Nat} {fr tow size : Int} (hl : s.ls[j]? = some ⟨1, fr, tow, size⟩) (hs : fr ≠ d) (hlo : 27 ≤ op) (hhi : op ≤ 29) :
    Calls Try.prog 47 #[.pointer (some ⟨gr, 0, none⟩), .int .i64 d, .int .i64 t, .agg #[.int .i64 k, .int .i64 dm, .int .i64 pk, .int .i64 op, .int .i64 j, .int .i64 b', .int .i64 v]] w (rdPost w0 γ r gr A cap (q + 1) (10, 0, 0, s)) := by
  have hj : j < s.ls.length := (List.getElem?_eq_some_iff.1 hl).1
  have h10 : s.ls.length ≤ 10 := h.2.1.1
  have h1 := h.box (r + 6) (by omega) (entO k dm pk op j b' v)
  have hk6 := put_same γ (r + 6) w.heap.size (entO k dm pk op j b' v)
  have hrest : ∀ t, (t < r ∨ r + 50 ≤ t) → put γ (r + 6) w.heap.size (entO k dm pk op j b' v) t = γ t := fun t ht => put_other _ _ _ (by omega)
  unfold entO at h1 hk6 hrest
  generalize put γ (r + 6) _ _ = γ1 at *
  have H1 := Lib.hid h1
  have HK := Lib.hid hrest
  have HL := Lib.hid hl
  have c0 := h1.len
  have e4 := h1.own.cell hk6 (i := 4) (v := .int .i64 j) rfl
  have d1 : decide ((j : Int) < 0) = false := by simp
  have d2 : decide ((s.ls.length : Int) ≤ j) = false := by simp; omega
  have b33 : decide (op < 33) = true := by simp; omega
  have b30 : decide (op < 30) = true := by simp; omega
  have bs : (fr != d) = true := by simpa using hs
  clear hs
  clear h h1 hrest hl
  go_enter Try.func47, Try.ntmps47
  go_wp2_with fail
  generalize hW : w.alloc _ = W at *
  generalize w.heap.size = gx at *
  clear hW
  go_quiet (fail)
  clear c0 e4
  have h2 := H1.out.drewN nq
  generalize W.drewN nq = W2 at *
  obtain ⟨vc, vp, nx, pb, off, g1, c1, g2, c2, g3, c3, rv, ⟨rfl, c0, c1', c2', c3', c4', q0, q1, q2, q3, uc, up, un⟩, hend⟩ := h2.at_ HL.out
  dsimp only at q0 q1 q2 q3
  have e4 := h2.own.cell hk6 (i := 4) (v := .int .i64 j) rfl
  have hjn : (j : Int) < s.ls.length := by omega
  have H2 := Lib.hid h2
  clear h2 d1 d2
  go_wp2_with fail
  refine Perm.wp_region_pre [0, 1, 2, 3, 4, 5, 6, 7] [8, 9] (fun w' => w'.cell? ⟨gr, 0, none⟩ = some (.slice (some ⟨pb, off, none⟩) s.ls.length cap) ∧ w'.cell? ⟨gx, 4, none⟩ = some (.int .i64 j) ∧ w'.cell? ⟨pb, off + j * 4, none⟩ = some (.int .i64 1) ∧ w'.cell? ⟨pb, off + j * 4 + 1, none⟩ = some (.int .i64 fr) ∧ w'.cell? ⟨pb, off + j * 4 + 2, none⟩ = some (.int .i64 tow) ∧ w'.cell? ⟨pb, off + j * 4 + 3, none⟩ = some (.int .i64 size)) (by kernel_rfl) (by kernel_rfl) (fun _ _ _ _ _ h => h) (by refine ⟨?_, ?_, ?_, ?_, ?_, ?_⟩ <;> simpa using by assumption) ?_
  repeat
    refine Perm.light_step rfl ?_ (fun w' hS => ?_) ?_
    rotate_left
    · (obtain ⟨s0, s1, s2, s3, s4, s5⟩ := hS; go_simp; try with_reducible rfl)
    simp only [Act.put, List.getElem_toArray, List.getElem_cons_zero, List.getElem_cons_succ, List.setIfInBounds_toArray, List.set_cons_zero, List.set_cons_succ]
  refine Perm.light_nil ?_
  have h3 := H2.out.drew.box (r + 7) (by omega) (.cells #[.int .i64 1, .int .i64 fr, .int .i64 tow, .int .i64 size] 78)
  have k7 := put_same γ1 (r + 7) W2.drew.heap.size (.cells #[.int .i64 1, .int .i64 fr, .int .i64 tow, .int .i64 size] 78)
  have k6 : put γ1 (r + 7) W2.drew.heap.size (.cells #[.int .i64 1, .int .i64 fr, .int .i64 tow, .int .i64 size] 78) (r + 6) = _ := (put_other _ _ _ (by omega)).trans hk6
  have krest : ∀ t, t ≠ r + 7 → put γ1 (r + 7) W2.drew.heap.size (.cells #[.int .i64 1, .int .i64 fr, .int .i64 tow, .int .i64 size] 78) t = γ1 t := fun t ht => put_other _ _ _ ht
  refine Perm.tail_run rfl (by rfl) (.value (.pointer (some ⟨W2.drew.heap.size, 0, none⟩))) _ (.inl rfl) (w' := W2.drew.alloc (.cells #[.int .i64 0, .int .i64 0, .int .i64 0, .int .i64 0] 78)) (by go_simp; try with_reducible rfl) (fun _ hS => ⟨cell_on hS.1 _, cell_on hS.2.1 _, cell_on hS.2.2.1 _, cell_on hS.2.2.2.1 _, cell_on hS.2.2.2.2.1 _, cell_on hS.2.2.2.2.2 _⟩) ?_
  simp only [Act.put, List.getElem_toArray, List.getElem_cons_zero, List.getElem_cons_succ, List.setIfInBounds_toArray, List.set_cons_zero, List.set_cons_succ]
  refine Perm.tail_run rfl (by rfl) .skip undef (.inr ⟨rfl, rfl⟩) (w' := W2.drew.alloc (.cells #[.int .i64 1, .int .i64 fr, .int .i64 tow, .int .i64 size] 78)) (by go_simp; try with_reducible rfl) (Perm.no_need (by kernel_rfl)) ?_
  simp only [Act.put, List.getElem_toArray, List.getElem_cons_zero, List.getElem_cons_succ, List.setIfInBounds_toArray, List.set_cons_zero, List.set_cons_succ]
  refine Perm.tail_nil ?_
  generalize put γ1 (r + 7) _ _ = γ3 at *
  generalize W2.drew.alloc _ = W3 at *
  generalize W2.drew.heap.size = gy at *
  clear c0 c1' c2' c3' c4' q0 q1 q2 q3 uc up un e4 hend hk6
  obtain ⟨vc, vp, nx, pb', off', g1, c1, g2, c2, g3, c3, rv, ⟨hA', c0, c1', c2', c3', c4', q0, q1, q2, q3, uc, up, un⟩, hend⟩ := h3.at_ HL.out
  cases hA'
  clear q0 q1 q2 q3
  have e3 := h3.own.cell k6 (i := 3) (v := .int .i64 op) rfl
  have e4 := h3.own.cell k6 (i := 4) (v := .int .i64 j) rfl
  have e5 := h3.own.cell k6 (i := 5) (v := .int .i64 b') rfl
  have e6 := h3.own.cell k6 (i := 6) (v := .int .i64 v) rfl
  have l0 := h3.own.cell k7 (i := 0) (v := .int .i64 1) rfl
  have l1 := h3.own.cell k7 (i := 1) (v := .int .i64 fr) rfl
  have l2 := h3.own.cell k7 (i := 2) (v := .int .i64 tow) rfl
  have H3 := Lib.hid h3
  have HR : Hid (∀ t, (t < r ∨ r + 50 ≤ t) → γ3 t = γ t) := Lib.hid fun t ht => (krest t (by omega)).trans (HK.out t ht)
  clear h3 H1 H2 HK krest
  clear hend
  go_wp2_with fail
  refine bodyPost_ret (results_tmp3 rfl _ _ _) rfl ?_
  exact ⟨rfl, _, H3.out.more (Nat.le_succ q), HR.out⟩

set_option maxRecDepth 100000 in
set_option maxHeartbeats 8000000 in
theorem rdo_side2 (h : RefL w0 γ r gr A cap q s w) (hq : q < 999) (d t k dm pk op b' v : Int) {j : Nat} {fr tow size : Int} (hl : s.ls[j]? = some ⟨1, fr, tow, size⟩) (hs : tow ≠ d) (hlo : 30 ≤ op) (hhi : op ≤ 32) :
    Calls Try.prog 47 #[.pointer (some ⟨gr, 0, none⟩), .int .i64 d, .int .i64 t, .agg #[.int .i64 k, .int .i64 dm, .int .i64 pk, .int .i64 op, .int .i64 j, .int .i64 b', .int .i64 v]] w (rdPost w0 γ r gr A cap (q + 1) (10, 0, 0, s)) := by
  have hj : j < s.ls.length := (List.getElem?_eq_some_iff.1 hl).1
  have h10 : s.ls.length ≤ 10 := h.2.1.1
  have h1 := h.box (r + 6) (by omega) (entO k dm pk op j b' v)
  have hk6 := put_same γ (r + 6) w.heap.size (entO k dm pk op j b' v)
  have hrest : ∀ t, (t < r ∨ r + 50 ≤ t) → put γ (r + 6) w.heap.size (entO k dm pk op j b' v) t = γ t := fun t ht => put_other _ _ _ (by omega)
  unfold entO at h1 hk6 hrest
  generalize put γ (r + 6) _ _ = γ1 at *
  have H1 := Lib.hid h1
  have HK := Lib.hid hrest
  have HL := Lib.hid hl
  have c0 := h1.len
  have e4 := h1.own.cell hk6 (i := 4) (v := .int .i64 j) rfl
  have d1 : decide ((j : Int) < 0) = false := by simp
  have d2 : decide ((s.ls.length : Int) ≤ j) = false := by simp; omega
  have b33 : decide (op < 33) = true := by simp; omega
  have b30 : decide (op < 30) = false := by simp; omega
  have b3 : (op == 33) = false := by rw [beq_eq_false_iff_ne]; omega
  have bs : (tow != d) = true := by simpa using hs
  clear hs
  clear h h1 hrest hl
  go_enter Try.func47, Try.ntmps47
  go_wp2_with fail
  generalize hW : w.alloc _ = W at *
  generalize w.heap.size = gx at *
  clear hW
  go_quiet (fail)
  clear c0 e4
  have h2 := H1.out.drewN nq
  generalize W.drewN nq = W2 at *
  obtain ⟨vc, vp, nx, pb, off, g1, c1, g2, c2, g3, c3, rv, ⟨rfl, c0, c1', c2', c3', c4', q0, q1, q2, q3, uc, up, un⟩, hend⟩ := h2.at_ HL.out
  dsimp only at q0 q1 q2 q3
  have e4 := h2.own.cell hk6 (i := 4) (v := .int .i64 j) rfl
  have hjn : (j : Int) < s.ls.length := by omega
  have H2 := Lib.hid h2
  clear h2 d1 d2
  go_wp2_with fail
  refine Perm.wp_region_pre [0, 1, 2, 3, 4, 5, 6, 7] [8, 9] (fun w' => w'.cell? ⟨gr, 0, none⟩ = some (.slice (some ⟨pb, off, none⟩) s.ls.length cap) ∧ w'.cell? ⟨gx, 4, none⟩ = some (.int .i64 j) ∧ w'.cell? ⟨pb, off + j * 4, none⟩ = some (.int .i64 1) ∧ w'.cell? ⟨pb, off + j * 4 + 1, none⟩ = some (.int .i64 fr) ∧ w'.cell? ⟨pb, off + j * 4 + 2, none⟩ = some (.int .i64 tow) ∧ w'.cell? ⟨pb, off + j * 4 + 3, none⟩ = some (.int .i64 size)) (by kernel_rfl) (by kernel_rfl) (fun _ _ _ _ _ h => h) (by refine ⟨?_, ?_, ?_, ?_, ?_, ?_⟩ <;> simpa using by assumption) ?_
  repeat
    refine Perm.light_step rfl ?_ (fun w' hS => ?_) ?_
    rotate_left
    · (obtain ⟨s0, s1, s2, s3, s4, s5⟩ := hS; go_simp; try with_reducible rfl)
    simp only [Act.put, List.getElem_toArray, List.getElem_cons_zero, List.getElem_cons_succ, List.setIfInBounds_toArray, List.set_cons_zero, List.set_cons_succ]
  refine Perm.light_nil ?_
  have h3 := H2.out.drew.box (r + 7) (by omega) (.cells #[.int .i64 1, .int .i64 fr, .int .i64 tow, .int .i64 size] 78)
  have k7 := put_same γ1 (r + 7) W2.drew.heap.size (.cells #[.int .i64 1, .int .i64 fr, .int .i64 tow, .int .i64 size] 78)
  have k6 : put γ1 (r + 7) W2.drew.heap.size (.cells #[.int .i64 1, .int .i64 fr, .int .i64 tow, .int .i64 size] 78) (r + 6) = _ := (put_other _ _ _ (by omega)).trans hk6
  have krest : ∀ t, t ≠ r + 7 → put γ1 (r + 7) W2.drew.heap.size (.cells #[.int .i64 1, .int .i64 fr, .int .i64 tow, .int .i64 size] 78) t = γ1 t := fun t ht => put_other _ _ _ ht
  refine Perm.tail_run rfl (by rfl) (.value (.pointer (some ⟨W2.drew.heap.size, 0, none⟩))) _ (.inl rfl) (w' := W2.drew.alloc (.cells #[.int .i64 0, .int .i64 0, .int .i64 0, .int .i64 0] 78)) (by go_simp; try with_reducible rfl) (fun _ hS => ⟨cell_on hS.1 _, cell_on hS.2.1 _, cell_on hS.2.2.1 _, cell_on hS.2.2.2.1 _, cell_on hS.2.2.2.2.1 _, cell_on hS.2.2.2.2.2 _⟩) ?_
  simp only [Act.put, List.getElem_toArray, List.getElem_cons_zero, List.getElem_cons_succ, List.setIfInBounds_toArray, List.set_cons_zero, List.set_cons_succ]
  refine Perm.tail_run rfl (by rfl) .skip undef (.inr ⟨rfl, rfl⟩) (w' := W2.drew.alloc (.cells #[.int .i64 1, .int .i64 fr, .int .i64 tow, .int .i64 size] 78)) (by go_simp; try with_reducible rfl) (Perm.no_need (by kernel_rfl)) ?_
  simp only [Act.put, List.getElem_toArray, List.getElem_cons_zero, List.getElem_cons_succ, List.setIfInBounds_toArray, List.set_cons_zero, List.set_cons_succ]
  refine Perm.tail_nil ?_
  generalize put γ1 (r + 7) _ _ = γ3 at *
  generalize W2.drew.alloc _ = W3 at *
  generalize W2.drew.heap.size = gy at *
  clear c0 c1' c2' c3' c4' q0 q1 q2 q3 uc up un e4 hend hk6
  obtain ⟨vc, vp, nx, pb', off', g1, c1, g2, c2, g3, c3, rv, ⟨hA', c0, c1', c2', c3', c4', q0, q1, q2, q3, uc, up, un⟩, hend⟩ := h3.at_ HL.out
  cases hA'
  clear q0 q1 q2 q3
  have e3 := h3.own.cell k6 (i := 3) (v := .int .i64 op) rfl
  have e4 := h3.own.cell k6 (i := 4) (v := .int .i64 j) rfl
  have e5 := h3.own.cell k6 (i := 5) (v := .int .i64 b') rfl
  have e6 := h3.own.cell k6 (i := 6) (v := .int .i64 v) rfl
  have l0 := h3.own.cell k7 (i := 0) (v := .int .i64 1) rfl
  have l1 := h3.own.cell k7 (i := 1) (v := .int .i64 fr) rfl
  have l2 := h3.own.cell k7 (i := 2) (v := .int .i64 tow) rfl
  have H3 := Lib.hid h3
  have HR : Hid (∀ t, (t < r ∨ r + 50 ≤ t) → γ3 t = γ t) := Lib.hid fun t ht => (krest t (by omega)).trans (HK.out t ht)
  clear h3 H1 H2 HK krest
  clear hend
  go_wp2_with fail
  refine bodyPost_ret (results_tmp3 rfl _ _ _) rfl ?_
  exact ⟨rfl, _, H3.out.more (Nat.le_succ q), HR.out⟩

set_option maxRecDepth 100000 in
set_option maxHeartbeats 8000000 in
theorem rdo_side3 (h : RefL w0 γ r gr A cap q s w) (hq : q < 999) (d t k dm pk b' v : Int) {j : Nat} {kind fr tow size : Int} (hl : s.ls[j]? = some ⟨kind, fr, tow, size⟩) (hkd : kind ≠ 1) (hs : fr ≠ d) :
    Calls Try.prog 47 #[.pointer (some ⟨gr, 0, none⟩), .int .i64 d, .int .i64 t, .agg #[.int .i64 k, .int .i64 dm, .int .i64 pk, .int .i64 33, .int .i64 j, .int .i64 b', .int .i64 v]] w (rdPost w0 γ r gr A cap (q + 1) (10, 0, 0, s)) := by
  have hj : j < s.ls.length := (List.getElem?_eq_some_iff.1 hl).1
  have h10 : s.ls.length ≤ 10 := h.2.1.1
  have h1 := h.box (r + 6) (by omega) (entO k dm pk 33 j b' v)
  have hk6 := put_same γ (r + 6) w.heap.size (entO k dm pk 33 j b' v)
  have hrest : ∀ t, (t < r ∨ r + 50 ≤ t) → put γ (r + 6) w.heap.size (entO k dm pk 33 j b' v) t = γ t := fun t ht => put_other _ _ _ (by omega)
  unfold entO at h1 hk6 hrest
  generalize put γ (r + 6) _ _ = γ1 at *
  have H1 := Lib.hid h1
  have HK := Lib.hid hrest
  have HL := Lib.hid hl
  have c0 := h1.len
  have e4 := h1.own.cell hk6 (i := 4) (v := .int .i64 j) rfl
  have d1 : decide ((j : Int) < 0) = false := by simp
  have d2 : decide ((s.ls.length : Int) ≤ j) = false := by simp; omega
  have bk : (kind == 1) = false := by simpa using hkd
  have bs : (fr != d) = true := by simpa using hs
  clear hs hkd
  clear h h1 hrest hl
  go_enter Try.func47, Try.ntmps47
  go_wp2_with fail
  generalize hW : w.alloc _ = W at *
  generalize w.heap.size = gx at *
  clear hW
  go_quiet (fail)
  clear c0 e4
  have h2 := H1.out.drewN nq
  generalize W.drewN nq = W2 at *
  obtain ⟨vc, vp, nx, pb, off, g1, c1, g2, c2, g3, c3, rv, ⟨rfl, c0, c1', c2', c3', c4', q0, q1, q2, q3, uc, up, un⟩, hend⟩ := h2.at_ HL.out
  dsimp only at q0 q1 q2 q3
  have e4 := h2.own.cell hk6 (i := 4) (v := .int .i64 j) rfl
  have hjn : (j : Int) < s.ls.length := by omega
  have H2 := Lib.hid h2
  clear h2 d1 d2
  go_wp2_with fail
  refine Perm.wp_region_pre [0, 1, 2, 3, 4, 5, 6, 7] [8, 9] (fun w' => w'.cell? ⟨gr, 0, none⟩ = some (.slice (some ⟨pb, off, none⟩) s.ls.length cap) ∧ w'.cell? ⟨gx, 4, none⟩ = some (.int .i64 j) ∧ w'.cell? ⟨pb, off + j * 4, none⟩ = some (.int .i64 kind) ∧ w'.cell? ⟨pb, off + j * 4 + 1, none⟩ = some (.int .i64 fr) ∧ w'.cell? ⟨pb, off + j * 4 + 2, none⟩ = some (.int .i64 tow) ∧ w'.cell? ⟨pb, off + j * 4 + 3, none⟩ = some (.int .i64 size)) (by kernel_rfl) (by kernel_rfl) (fun _ _ _ _ _ h => h) (by refine ⟨?_, ?_, ?_, ?_, ?_, ?_⟩ <;> simpa using by assumption) ?_
  repeat
    refine Perm.light_step rfl ?_ (fun w' hS => ?_) ?_
    rotate_left
    · (obtain ⟨s0, s1, s2, s3, s4, s5⟩ := hS; go_simp; try with_reducible rfl)
    simp only [Act.put, List.getElem_toArray, List.getElem_cons_zero, List.getElem_cons_succ, List.setIfInBounds_toArray, List.set_cons_zero, List.set_cons_succ]
  refine Perm.light_nil ?_
  have h3 := H2.out.drew.box (r + 7) (by omega) (.cells #[.int .i64 kind, .int .i64 fr, .int .i64 tow, .int .i64 size] 78)
  have k7 := put_same γ1 (r + 7) W2.drew.heap.size (.cells #[.int .i64 kind, .int .i64 fr, .int .i64 tow, .int .i64 size] 78)
  have k6 : put γ1 (r + 7) W2.drew.heap.size (.cells #[.int .i64 kind, .int .i64 fr, .int .i64 tow, .int .i64 size] 78) (r + 6) = _ := (put_other _ _ _ (by omega)).trans hk6
  have krest : ∀ t, t ≠ r + 7 → put γ1 (r + 7) W2.drew.heap.size (.cells #[.int .i64 kind, .int .i64 fr, .int .i64 tow, .int .i64 size] 78) t = γ1 t := fun t ht => put_other _ _ _ ht
  refine Perm.tail_run rfl (by rfl) (.value (.pointer (some ⟨W2.drew.heap.size, 0, none⟩))) _ (.inl rfl) (w' := W2.drew.alloc (.cells #[.int .i64 0, .int .i64 0, .int .i64 0, .int .i64 0] 78)) (by go_simp; try with_reducible rfl) (fun _ hS => ⟨cell_on hS.1 _, cell_on hS.2.1 _, cell_on hS.2.2.1 _, cell_on hS.2.2.2.1 _, cell_on hS.2.2.2.2.1 _, cell_on hS.2.2.2.2.2 _⟩) ?_
  simp only [Act.put, List.getElem_toArray, List.getElem_cons_zero, List.getElem_cons_succ, List.setIfInBounds_toArray, List.set_cons_zero, List.set_cons_succ]
  refine Perm.tail_run rfl (by rfl) .skip undef (.inr ⟨rfl, rfl⟩) (w' := W2.drew.alloc (.cells #[.int .i64 kind, .int .i64 fr, .int .i64 tow, .int .i64 size] 78)) (by go_simp; try with_reducible rfl) (Perm.no_need (by kernel_rfl)) ?_
  simp only [Act.put, List.getElem_toArray, List.getElem_cons_zero, List.getElem_cons_succ, List.setIfInBounds_toArray, List.set_cons_zero, List.set_cons_succ]
  refine Perm.tail_nil ?_
  generalize put γ1 (r + 7) _ _ = γ3 at *
  generalize W2.drew.alloc _ = W3 at *
  generalize W2.drew.heap.size = gy at *
  clear c0 c1' c2' c3' c4' q0 q1 q2 q3 uc up un e4 hend hk6
  obtain ⟨vc, vp, nx, pb', off', g1, c1, g2, c2, g3, c3, rv, ⟨hA', c0, c1', c2', c3', c4', q0, q1, q2, q3, uc, up, un⟩, hend⟩ := h3.at_ HL.out
  cases hA'
  clear q0 q1 q2 q3
  have e3 := h3.own.cell k6 (i := 3) (v := .int .i64 33) rfl
  have e4 := h3.own.cell k6 (i := 4) (v := .int .i64 j) rfl
  have e5 := h3.own.cell k6 (i := 5) (v := .int .i64 b') rfl
  have e6 := h3.own.cell k6 (i := 6) (v := .int .i64 v) rfl
  have l0 := h3.own.cell k7 (i := 0) (v := .int .i64 kind) rfl
  have l1 := h3.own.cell k7 (i := 1) (v := .int .i64 fr) rfl
  have l2 := h3.own.cell k7 (i := 2) (v := .int .i64 tow) rfl
  have H3 := Lib.hid h3
  have HR : Hid (∀ t, (t < r ∨ r + 50 ≤ t) → γ3 t = γ t) := Lib.hid fun t ht => (krest t (by omega)).trans (HK.out t ht)
  clear h3 H1 H2 HK krest
  clear hend
  go_wp2_with fail
  refine bodyPost_ret (results_tmp3 rfl _ _ _) rfl ?_
  exact ⟨rfl, _, H3.out.more (Nat.le_succ q), HR.out⟩

set_option maxRecDepth 100000 in
set_option maxHeartbeats 8000000 in
theorem rdo_side4 (h : RefL w0 γ r gr A cap q s w) (hq : q < 999) (d t k dm pk b' v : Int) {j : Nat} {kind fr tow size : Int} (hl : s.ls[j]? = some ⟨kind, fr, tow, size⟩) (hkd : kind ≠ 1) (hs : tow ≠ d) :
    Calls Try.prog 47 #[.pointer (some ⟨gr, 0, none⟩), .int .i64 d, .int .i64 t, .agg #[.int .i64 k, .int .i64 dm, .int .i64 pk, .int .i64 34, .int .i64 j, .int .i64 b', .int .i64 v]] w (rdPost w0 γ r gr A cap (q + 1) (10, 0, 0, s)) := by
  have hj : j < s.ls.length := (List.getElem?_eq_some_iff.1 hl).1
  have h10 : s.ls.length ≤ 10 := h.2.1.1
  have h1 := h.box (r + 6) (by omega) (entO k dm pk 34 j b' v)
  have hk6 := put_same γ (r + 6) w.heap.size (entO k dm pk 34 j b' v)
  have hrest : ∀ t, (t < r ∨ r + 50 ≤ t) → put γ (r + 6) w.heap.size (entO k dm pk 34 j b' v) t = γ t := fun t ht => put_other _ _ _ (by omega)
  unfold entO at h1 hk6 hrest
  generalize put γ (r + 6) _ _ = γ1 at *
  have H1 := Lib.hid h1
  have HK := Lib.hid hrest
  have HL := Lib.hid hl
  have c0 := h1.len
  have e4 := h1.own.cell hk6 (i := 4) (v := .int .i64 j) rfl
  have d1 : decide ((j : Int) < 0) = false := by simp
  have d2 : decide ((s.ls.length : Int) ≤ j) = false := by simp; omega
  have bk : (kind == 1) = false := by simpa using hkd
  have bs : (tow != d) = true := by simpa using hs
  clear hs hkd
  clear h h1 hrest hl
  go_enter Try.func47, Try.ntmps47
  go_wp2_with fail
  generalize hW : w.alloc _ = W at *
  generalize w.heap.size = gx at *
  clear hW
  go_quiet (fail)
  clear c0 e4
  have h2 := H1.out.drewN nq
  generalize W.drewN nq = W2 at *
  obtain ⟨vc, vp, nx, pb, off, g1, c1, g2, c2, g3, c3, rv, ⟨rfl, c0, c1', c2', c3', c4', q0, q1, q2, q3, uc, up, un⟩, hend⟩ := h2.at_ HL.out
  dsimp only at q0 q1 q2 q3
  have e4 := h2.own.cell hk6 (i := 4) (v := .int .i64 j) rfl
  have hjn : (j : Int) < s.ls.length := by omega
  have H2 := Lib.hid h2
  clear h2 d1 d2
  go_wp2_with fail
  refine Perm.wp_region_pre [0, 1, 2, 3, 4, 5, 6, 7] [8, 9] (fun w' => w'.cell? ⟨gr, 0, none⟩ = some (.slice (some ⟨pb, off, none⟩) s.ls.length cap) ∧ w'.cell? ⟨gx, 4, none⟩ = some (.int .i64 j) ∧ w'.cell? ⟨pb, off + j * 4, none⟩ = some (.int .i64 kind) ∧ w'.cell? ⟨pb, off + j * 4 + 1, none⟩ = some (.int .i64 fr) ∧ w'.cell? ⟨pb, off + j * 4 + 2, none⟩ = some (.int .i64 tow) ∧ w'.cell? ⟨pb, off + j * 4 + 3, none⟩ = some (.int .i64 size)) (by kernel_rfl) (by kernel_rfl) (fun _ _ _ _ _ h => h) (by refine ⟨?_, ?_, ?_, ?_, ?_, ?_⟩ <;> simpa using by assumption) ?_
  repeat
    refine Perm.light_step rfl ?_ (fun w' hS => ?_) ?_
    rotate_left
    · (obtain ⟨s0, s1, s2, s3, s4, s5⟩ := hS; go_simp; try with_reducible rfl)
    simp only [Act.put, List.getElem_toArray, List.getElem_cons_zero, List.getElem_cons_succ, List.setIfInBounds_toArray, List.set_cons_zero, List.set_cons_succ]
  refine Perm.light_nil ?_
  have h3 := H2.out.drew.box (r + 7) (by omega) (.cells #[.int .i64 kind, .int .i64 fr, .int .i64 tow, .int .i64 size] 78)
  have k7 := put_same γ1 (r + 7) W2.drew.heap.size (.cells #[.int .i64 kind, .int .i64 fr, .int .i64 tow, .int .i64 size] 78)
  have k6 : put γ1 (r + 7) W2.drew.heap.size (.cells #[.int .i64 kind, .int .i64 fr, .int .i64 tow, .int .i64 size] 78) (r + 6) = _ := (put_other _ _ _ (by omega)).trans hk6
  have krest : ∀ t, t ≠ r + 7 → put γ1 (r + 7) W2.drew.heap.size (.cells #[.int .i64 kind, .int .i64 fr, .int .i64 tow, .int .i64 size] 78) t = γ1 t := fun t ht => put_other _ _ _ ht
  refine Perm.tail_run rfl (by rfl) (.value (.pointer (some ⟨W2.drew.heap.size, 0, none⟩))) _ (.inl rfl) (w' := W2.drew.alloc (.cells #[.int .i64 0, .int .i64 0, .int .i64 0, .int .i64 0] 78)) (by go_simp; try with_reducible rfl) (fun _ hS => ⟨cell_on hS.1 _, cell_on hS.2.1 _, cell_on hS.2.2.1 _, cell_on hS.2.2.2.1 _, cell_on hS.2.2.2.2.1 _, cell_on hS.2.2.2.2.2 _⟩) ?_
  simp only [Act.put, List.getElem_toArray, List.getElem_cons_zero, List.getElem_cons_succ, List.setIfInBounds_toArray, List.set_cons_zero, List.set_cons_succ]
  refine Perm.tail_run rfl (by rfl) .skip undef (.inr ⟨rfl, rfl⟩) (w' := W2.drew.alloc (.cells #[.int .i64 kind, .int .i64 fr, .int .i64 tow, .int .i64 size] 78)) (by go_simp; try with_reducible rfl) (Perm.no_need (by kernel_rfl)) ?_
  simp only [Act.put, List.getElem_toArray, List.getElem_cons_zero, List.getElem_cons_succ, List.setIfInBounds_toArray, List.set_cons_zero, List.set_cons_succ]
  refine Perm.tail_nil ?_
  generalize put γ1 (r + 7) _ _ = γ3 at *
  generalize W2.drew.alloc _ = W3 at *
  generalize W2.drew.heap.size = gy at *
  clear c0 c1' c2' c3' c4' q0 q1 q2 q3 uc up un e4 hend hk6
  obtain ⟨vc, vp, nx, pb', off', g1, c1, g2, c2, g3, c3, rv, ⟨hA', c0, c1', c2', c3', c4', q0, q1, q2, q3, uc, up, un⟩, hend⟩ := h3.at_ HL.out
  cases hA'
  clear q0 q1 q2 q3
  have e3 := h3.own.cell k6 (i := 3) (v := .int .i64 34) rfl
  have e4 := h3.own.cell k6 (i := 4) (v := .int .i64 j) rfl
  have e5 := h3.own.cell k6 (i := 5) (v := .int .i64 b') rfl
  have e6 := h3.own.cell k6 (i := 6) (v := .int .i64 v) rfl
  have l0 := h3.own.cell k7 (i := 0) (v := .int .i64 kind) rfl
  have l1 := h3.own.cell k7 (i := 1) (v := .int .i64 fr) rfl
  have l2 := h3.own.cell k7 (i := 2) (v := .int .i64 tow) rfl
  have H3 := Lib.hid h3
  have HR : Hid (∀ t, (t < r ∨ r + 50 ≤ t) → γ3 t = γ t) := Lib.hid fun t ht => (krest t (by omega)).trans (HK.out t ht)
  clear h3 H1 H2 HK krest
  clear hend
  go_wp2_with fail
  refine bodyPost_ret (results_tmp3 rfl _ _ _) rfl ?_
  exact ⟨rfl, _, H3.out.more (Nat.le_succ q), HR.out⟩

set_option maxRecDepth 100000 in
set_option maxHeartbeats 8000000 in
theorem rdo_wbegin (h : RefL w0 γ r gr A cap q s w) (hq : q < 999) (d t k dm pk b' v : Int) {j : Nat} {tow size : Int} {c : CS} (hl : s.ls[j]? = some ⟨1, d, tow, size⟩) (he : s.en j = .cell c) (hcq : c.q < 999) :
    Calls Try.prog 47 #[.pointer (some ⟨gr, 0, none⟩), .int .i64 d, .int .i64 t, .agg #[.int .i64 k, .int .i64 dm, .int .i64 pk, .int .i64 27, .int .i64 j, .int .i64 b', .int .i64 v]] w (rdPost w0 γ r gr A cap (q + 1) (c.beginE t, 0, 0, { s with en := updE s.en j (.cell (c.begin t)) })) := by
  have hj : j < s.ls.length := (List.getElem?_eq_some_iff.1 hl).1
  have h10 : s.ls.length ≤ 10 := h.2.1.1
  have h1 := h.box (r + 6) (by omega) (entO k dm pk 27 j b' v)
  have hk6 := put_same γ (r + 6) w.heap.size (entO k dm pk 27 j b' v)
  have hrest : ∀ t, (t < r ∨ r + 50 ≤ t) → put γ (r + 6) w.heap.size (entO k dm pk 27 j b' v) t = γ t := fun t ht => put_other _ _ _ (by omega)
  unfold entO at h1 hk6 hrest
  generalize put γ (r + 6) _ _ = γ1 at *
  have H1 := Lib.hid h1
  have HK := Lib.hid hrest
  have HL := Lib.hid hl
  have c0 := h1.len
  have e4 := h1.own.cell hk6 (i := 4) (v := .int .i64 j) rfl
  have d1 : decide ((j : Int) < 0) = false := by simp
  have d2 : decide ((s.ls.length : Int) ≤ j) = false := by simp; omega
  clear h h1 hrest hl
  go_enter Try.func47, Try.ntmps47
  go_wp2_with fail
  generalize hW : w.alloc _ = W at *
  generalize w.heap.size = gx at *
  clear hW
  go_quiet (fail)
  clear c0 e4
  have h2 := H1.out.drewN nq
  generalize W.drewN nq = W2 at *
  obtain ⟨vc, vp, nx, pb, off, g1, c1, g2, c2, g3, c3, rv, ⟨rfl, c0, c1', c2', c3', c4', q0, q1, q2, q3, uc, up, un⟩, hend⟩ := h2.at_ HL.out
  dsimp only at q0 q1 q2 q3
  have e4 := h2.own.cell hk6 (i := 4) (v := .int .i64 j) rfl
  have hjn : (j : Int) < s.ls.length := by omega
  have H2 := Lib.hid h2
  clear h2 d1 d2
  go_wp2_with fail
  refine Perm.wp_region_pre [0, 1, 2, 3, 4, 5, 6, 7] [8, 9] (fun w' => w'.cell? ⟨gr, 0, none⟩ = some (.slice (some ⟨pb, off, none⟩) s.ls.length cap) ∧ w'.cell? ⟨gx, 4, none⟩ = some (.int .i64 j) ∧ w'.cell? ⟨pb, off + j * 4, none⟩ = some (.int .i64 1) ∧ w'.cell? ⟨pb, off + j * 4 + 1, none⟩ = some (.int .i64 d) ∧ w'.cell? ⟨pb, off + j * 4 + 2, none⟩ = some (.int .i64 tow) ∧ w'.cell? ⟨pb, off + j * 4 + 3, none⟩ = some (.int .i64 size)) (by kernel_rfl) (by kernel_rfl) (fun _ _ _ _ _ h => h) (by refine ⟨?_, ?_, ?_, ?_, ?_, ?_⟩ <;> simpa using by assumption) ?_
  repeat
    refine Perm.light_step rfl ?_ (fun w' hS => ?_) ?_
    rotate_left
    · (obtain ⟨s0, s1, s2, s3, s4, s5⟩ := hS; go_simp; try with_reducible rfl)
    simp only [Act.put, List.getElem_toArray, List.getElem_cons_zero, List.getElem_cons_succ, List.setIfInBounds_toArray, List.set_cons_zero, List.set_cons_succ]
  refine Perm.light_nil ?_
  have h3 := H2.out.drew.box (r + 7) (by omega) (.cells #[.int .i64 1, .int .i64 d, .int .i64 tow, .int .i64 size] 78)
  have k7 := put_same γ1 (r + 7) W2.drew.heap.size (.cells #[.int .i64 1, .int .i64 d, .int .i64 tow, .int .i64 size] 78)
  have k6 : put γ1 (r + 7) W2.drew.heap.size (.cells #[.int .i64 1, .int .i64 d, .int .i64 tow, .int .i64 size] 78) (r + 6) = _ := (put_other _ _ _ (by omega)).trans hk6
  have krest : ∀ t, t ≠ r + 7 → put γ1 (r + 7) W2.drew.heap.size (.cells #[.int .i64 1, .int .i64 d, .int .i64 tow, .int .i64 size] 78) t = γ1 t := fun t ht => put_other _ _ _ ht
  refine Perm.tail_run rfl (by rfl) (.value (.pointer (some ⟨W2.drew.heap.size, 0, none⟩))) _ (.inl rfl) (w' := W2.drew.alloc (.cells #[.int .i64 0, .int .i64 0, .int .i64 0, .int .i64 0] 78)) (by go_simp; try with_reducible rfl) (fun _ hS => ⟨cell_on hS.1 _, cell_on hS.2.1 _, cell_on hS.2.2.1 _, cell_on hS.2.2.2.1 _, cell_on hS.2.2.2.2.1 _, cell_on hS.2.2.2.2.2 _⟩) ?_
  simp only [Act.put, List.getElem_toArray, List.getElem_cons_zero, List.getElem_cons_succ, List.setIfInBounds_toArray, List.set_cons_zero, List.set_cons_succ]
  refine Perm.tail_run rfl (by rfl) .skip undef (.inr ⟨rfl, rfl⟩) (w' := W2.drew.alloc (.cells #[.int .i64 1, .int .i64 d, .int .i64 tow, .int .i64 size] 78)) (by go_simp; try with_reducible rfl) (Perm.no_need (by kernel_rfl)) ?_
  simp only [Act.put, List.getElem_toArray, List.getElem_cons_zero, List.getElem_cons_succ, List.setIfInBounds_toArray, List.set_cons_zero, List.set_cons_succ]
  refine Perm.tail_nil ?_
  generalize put γ1 (r + 7) _ _ = γ3 at *
  generalize W2.drew.alloc _ = W3 at *
  generalize W2.drew.heap.size = gy at *
  clear c0 c1' c2' c3' c4' q0 q1 q2 q3 uc up un e4 hend hk6
  obtain ⟨vc, vp, nx, pb', off', g1, c1, g2, c2, g3, c3, rv, ⟨hA', c0, c1', c2', c3', c4', q0, q1, q2, q3, uc, up, un⟩, hend⟩ := h3.at_ HL.out
  cases hA'
  clear q0 q1 q2 q3
  have e3 := h3.own.cell k6 (i := 3) (v := .int .i64 27) rfl
  have e4 := h3.own.cell k6 (i := 4) (v := .int .i64 j) rfl
  have e5 := h3.own.cell k6 (i := 5) (v := .int .i64 b') rfl
  have e6 := h3.own.cell k6 (i := 6) (v := .int .i64 v) rfl
  have l0 := h3.own.cell k7 (i := 0) (v := .int .i64 1) rfl
  have l1 := h3.own.cell k7 (i := 1) (v := .int .i64 d) rfl
  have l2 := h3.own.cell k7 (i := 2) (v := .int .i64 tow) rfl
  have H3 := Lib.hid h3
  have HR : Hid (∀ t, (t < r ∨ r + 50 ≤ t) → γ3 t = γ t) := Lib.hid fun t ht => (krest t (by omega)).trans (HK.out t ht)
  clear h3 H1 H2 HK krest
  obtain ⟨gc, gp, c', z, all, rfl, rfl, hC, hok, hP, z1, z8, zl, hmt⟩ := hend
  rw [he] at hmt
  have hcc := hmt.2.symm
  subst hcc
  clear hmt
  have HC := Lib.hid hC
  have HP := Lib.hid hP
  clear hC hP
  go_wp2_with fail
  go_quiet (fail)
  go_wp2_with fail
  refine (rcBegin_any (H3.out.own.drewN nq) HC.out hok (by omega) t).mono ?_
  rintro e w5 ⟨rfl, γ5, ho5, hC5, hk5⟩
  have hfin : rdPost w0 γ r gr (some ⟨pb, off, none⟩) cap (q + 1) (c.beginE t, 0, 0, { s with en := updE s.en j (.cell (c.begin t)) }) (.returned (.tuple #[.int .i64 (c.beginE t), .int .i64 0, .int .i64 0])) w5 := by
    refine ⟨rfl, γ5, ((H3.out.drewN nq).turn ho5 HL.out (fun k hk => hk5 k (by omega) (by omega)) fun vc vp nx hen => ?_).more (Nat.le_succ q), fun k hk => (hk5 k (by omega) (by omega)).trans (HR.out k hk)⟩
    obtain ⟨gc', gp', c'', z', all', rfl, rfl, hC', hok', hP', z1', z8', zl', hm'⟩ := hen
    rw [he] at hm'
    obtain ⟨hk1, hcc⟩ := hm'
    subst hcc
    have hgc : gc' = gc := by
      obtain ⟨_, _, _, _, _, _, _, x1, _⟩ := hC'
      obtain ⟨_, _, _, _, _, _, _, x2, _⟩ := HC.out
      rw [x1] at x2
      exact (Prod.mk.inj (Option.some.inj x2)).1
    subst hgc
    exact ⟨gc', gp', _, z', all', rfl, rfl, hC5, by exact hok'.begin t hcq, hP'.keep (hk5 _ (by omega) (by omega)) (hk5 _ (by omega) (by omega)), z1', z8', zl', hk1, rfl⟩
  have HF := Lib.hid hfin
  clear hfin ho5 hC5 hk5
  rw [ans_eq]
  generalize c.beginE t = x1 at *
  go_wp2_with fail
  refine bodyPost_ret (results_tmp3 rfl _ _ _) rfl ?_
  exact HF.out

set_option maxRecDepth 100000 in
set_option maxHeartbeats 8000000 in
theorem rdo_write (h : RefL w0 γ r gr A cap q s w) (hq : q < 999) (d t k dm pk b' v : Int) {j : Nat} {tow size : Int} {c : CS} (hl : s.ls[j]? = some ⟨1, d, tow, size⟩) (he : s.en j = .cell c) (hcq : c.q < 999) :
    Calls Try.prog 47 #[.pointer (some ⟨gr, 0, none⟩), .int .i64 d, .int .i64 t, .agg #[.int .i64 k, .int .i64 dm, .int .i64 pk, .int .i64 28, .int .i64 j, .int .i64 b', .int .i64 v]] w (rdPost w0 γ r gr A cap (q + 1) (c.putE t b', 0, 0, { s with en := updE s.en j (.cell (c.put t b' v)) })) := by
  have hj : j < s.ls.length := (List.getElem?_eq_some_iff.1 hl).1
  have h10 : s.ls.length ≤ 10 := h.2.1.1
  have h1 := h.box (r + 6) (by omega) (entO k dm pk 28 j b' v)
  have hk6 := put_same γ (r + 6) w.heap.size (entO k dm pk 28 j b' v)
  have hrest : ∀ t, (t < r ∨ r + 50 ≤ t) → put γ (r + 6) w.heap.size (entO k dm pk 28 j b' v) t = γ t := fun t ht => put_other _ _ _ (by omega)
  unfold entO at h1 hk6 hrest
  generalize put γ (r + 6) _ _ = γ1 at *
  have H1 := Lib.hid h1
  have HK := Lib.hid hrest
  have HL := Lib.hid hl
  have c0 := h1.len
  have e4 := h1.own.cell hk6 (i := 4) (v := .int .i64 j) rfl
  have d1 : decide ((j : Int) < 0) = false := by simp
  have d2 : decide ((s.ls.length : Int) ≤ j) = false := by simp; omega
  clear h h1 hrest hl
  go_enter Try.func47, Try.ntmps47
  go_wp2_with fail
  generalize hW : w.alloc _ = W at *
  generalize w.heap.size = gx at *
  clear hW
  go_quiet (fail)
  clear c0 e4
  have h2 := H1.out.drewN nq
  generalize W.drewN nq = W2 at *
  obtain ⟨vc, vp, nx, pb, off, g1, c1, g2, c2, g3, c3, rv, ⟨rfl, c0, c1', c2', c3', c4', q0, q1, q2, q3, uc, up, un⟩, hend⟩ := h2.at_ HL.out
  dsimp only at q0 q1 q2 q3
  have e4 := h2.own.cell hk6 (i := 4) (v := .int .i64 j) rfl
  have hjn : (j : Int) < s.ls.length := by omega
  have H2 := Lib.hid h2
  clear h2 d1 d2
  go_wp2_with fail
  refine Perm.wp_region_pre [0, 1, 2, 3, 4, 5, 6, 7] [8, 9] (fun w' => w'.cell? ⟨gr, 0, none⟩ = some (.slice (some ⟨pb, off, none⟩) s.ls.length cap) ∧ w'.cell? ⟨gx, 4, none⟩ = some (.int .i64 j) ∧ w'.cell? ⟨pb, off + j * 4, none⟩ = some (.int .i64 1) ∧ w'.cell? ⟨pb, off + j * 4 + 1, none⟩ = some (.int .i64 d) ∧ w'.cell? ⟨pb, off + j * 4 + 2, none⟩ = some (.int .i64 tow) ∧ w'.cell? ⟨pb, off + j * 4 + 3, none⟩ = some (.int .i64 size)) (by kernel_rfl) (by kernel_rfl) (fun _ _ _ _ _ h => h) (by refine ⟨?_, ?_, ?_, ?_, ?_, ?_⟩ <;> simpa using by assumption) ?_
  repeat
    refine Perm.light_step rfl ?_ (fun w' hS => ?_) ?_
    rotate_left
    · (obtain ⟨s0, s1, s2, s3, s4, s5⟩ := hS; go_simp; try with_reducible rfl)
    simp only [Act.put, List.getElem_toArray, List.getElem_cons_zero, List.getElem_cons_succ, List.setIfInBounds_toArray, List.set_cons_zero, List.set_cons_succ]
  refine Perm.light_nil ?_
  have h3 := H2.out.drew.box (r + 7) (by omega) (.cells #[.int .i64 1, .int .i64 d, .int .i64 tow, .int .i64 size] 78)
  have k7 := put_same γ1 (r + 7) W2.drew.heap.size (.cells #[.int .i64 1, .int .i64 d, .int .i64 tow, .int .i64 size] 78)
  have k6 : put γ1 (r + 7) W2.drew.heap.size (.cells #[.int .i64 1, .int .i64 d, .int .i64 tow, .int .i64 size] 78) (r + 6) = _ := (put_other _ _ _ (by omega)).trans hk6
  have krest : ∀ t, t ≠ r + 7 → put γ1 (r + 7) W2.drew.heap.size (.cells #[.int .i64 1, .int .i64 d, .int .i64 tow, .int .i64 size] 78) t = γ1 t := fun t ht => put_other _ _ _ ht
  refine Perm.tail_run rfl (by rfl) (.value (.pointer (some ⟨W2.drew.heap.size, 0, none⟩))) _ (.inl rfl) (w' := W2.drew.alloc (.cells #[.int .i64 0, .int .i64 0, .int .i64 0, .int .i64 0] 78)) (by go_simp; try with_reducible rfl) (fun _ hS => ⟨cell_on hS.1 _, cell_on hS.2.1 _, cell_on hS.2.2.1 _, cell_on hS.2.2.2.1 _, cell_on hS.2.2.2.2.1 _, cell_on hS.2.2.2.2.2 _⟩) ?_
  simp only [Act.put, List.getElem_toArray, List.getElem_cons_zero, List.getElem_cons_succ, List.setIfInBounds_toArray, List.set_cons_zero, List.set_cons_succ]
  refine Perm.tail_run rfl (by rfl) .skip undef (.inr ⟨rfl, rfl⟩) (w' := W2.drew.alloc (.cells #[.int .i64 1, .int .i64 d, .int .i64 tow, .int .i64 size] 78)) (by go_simp; try with_reducible rfl) (Perm.no_need (by kernel_rfl)) ?_
  simp only [Act.put, List.getElem_toArray, List.getElem_cons_zero, List.getElem_cons_succ, List.setIfInBounds_toArray, List.set_cons_zero, List.set_cons_succ]
  refine Perm.tail_nil ?_
  generalize put γ1 (r + 7) _ _ = γ3 at *
  generalize W2.drew.alloc _ = W3 at *
  generalize W2.drew.heap.size = gy at *
  clear c0 c1' c2' c3' c4' q0 q1 q2 q3 uc up un e4 hend hk6
  obtain ⟨vc, vp, nx, pb', off', g1, c1, g2, c2, g3, c3, rv, ⟨hA', c0, c1', c2', c3', c4', q0, q1, q2, q3, uc, up, un⟩, hend⟩ := h3.at_ HL.out
  cases hA'
  clear q0 q1 q2 q3
  have e3 := h3.own.cell k6 (i := 3) (v := .int .i64 28) rfl
  have e4 := h3.own.cell k6 (i := 4) (v := .int .i64 j) rfl
  have e5 := h3.own.cell k6 (i := 5) (v := .int .i64 b') rfl
  have e6 := h3.own.cell k6 (i := 6) (v := .int .i64 v) rfl
  have l0 := h3.own.cell k7 (i := 0) (v := .int .i64 1) rfl
  have l1 := h3.own.cell k7 (i := 1) (v := .int .i64 d) rfl
  have l2 := h3.own.cell k7 (i := 2) (v := .int .i64 tow) rfl
  have H3 := Lib.hid h3
  have HR : Hid (∀ t, (t < r ∨ r + 50 ≤ t) → γ3 t = γ t) := Lib.hid fun t ht => (krest t (by omega)).trans (HK.out t ht)
  clear h3 H1 H2 HK krest
  obtain ⟨gc, gp, c', z, all, rfl, rfl, hC, hok, hP, z1, z8, zl, hmt⟩ := hend
  rw [he] at hmt
  have hcc := hmt.2.symm
  subst hcc
  clear hmt
  have HC := Lib.hid hC
  have HP := Lib.hid hP
  clear hC hP
  go_wp2_with fail
  go_quiet (fail)
  go_wp2_with fail
  refine (rcPut_any (H3.out.own.drewN nq) HC.out hok (by omega) t b' v).mono ?_
  rintro e w5 ⟨rfl, γ5, ho5, hC5, hk5⟩
  have hfin : rdPost w0 γ r gr (some ⟨pb, off, none⟩) cap (q + 1) (c.putE t b', 0, 0, { s with en := updE s.en j (.cell (c.put t b' v)) }) (.returned (.tuple #[.int .i64 (c.putE t b'), .int .i64 0, .int .i64 0])) w5 := by
    refine ⟨rfl, γ5, ((H3.out.drewN nq).turn ho5 HL.out (fun k hk => hk5 k (by omega) (by omega)) fun vc vp nx hen => ?_).more (Nat.le_succ q), fun k hk => (hk5 k (by omega) (by omega)).trans (HR.out k hk)⟩
    obtain ⟨gc', gp', c'', z', all', rfl, rfl, hC', hok', hP', z1', z8', zl', hm'⟩ := hen
    rw [he] at hm'
    obtain ⟨hk1, hcc⟩ := hm'
    subst hcc
    have hgc : gc' = gc := by
      obtain ⟨_, _, _, _, _, _, _, x1, _⟩ := hC'
      obtain ⟨_, _, _, _, _, _, _, x2, _⟩ := HC.out
      rw [x1] at x2
      exact (Prod.mk.inj (Option.some.inj x2)).1
    subst hgc
    exact ⟨gc', gp', _, z', all', rfl, rfl, hC5, by exact hok'.put t b' v, hP'.keep (hk5 _ (by omega) (by omega)) (hk5 _ (by omega) (by omega)), z1', z8', zl', hk1, rfl⟩
  have HF := Lib.hid hfin
  clear hfin ho5 hC5 hk5
  rw [ans_eq]
  generalize c.putE t b' = x1 at *
  go_wp2_with fail
  refine bodyPost_ret (results_tmp3 rfl _ _ _) rfl ?_
  exact HF.out

set_option maxRecDepth 100000 in
set_option maxHeartbeats 8000000 in
theorem rdo_wend (h : RefL w0 γ r gr A cap q s w) (hq : q < 999) (d t k dm pk b' v : Int) {j : Nat} {tow size : Int} {c : CS} (hl : s.ls[j]? = some ⟨1, d, tow, size⟩) (he : s.en j = .cell c) (hcq : c.q < 999) :
    Calls Try.prog 47 #[.pointer (some ⟨gr, 0, none⟩), .int .i64 d, .int .i64 t, .agg #[.int .i64 k, .int .i64 dm, .int .i64 pk, .int .i64 29, .int .i64 j, .int .i64 b', .int .i64 v]] w (rdPost w0 γ r gr A cap (q + 1) (c.endE t, 0, 0, { s with en := updE s.en j (.cell (c.end_ t)) })) := by
  have hj : j < s.ls.length := (List.getElem?_eq_some_iff.1 hl).1
  have h10 : s.ls.length ≤ 10 := h.2.1.1
  have h1 := h.box (r + 6) (by omega) (entO k dm pk 29 j b' v)
  have hk6 := put_same γ (r + 6) w.heap.size (entO k dm pk 29 j b' v)
  have hrest : ∀ t, (t < r ∨ r + 50 ≤ t) → put γ (r + 6) w.heap.size (entO k dm pk 29 j b' v) t = γ t := fun t ht => put_other _ _ _ (by omega)
  unfold entO at h1 hk6 hrest
  generalize put γ (r + 6) _ _ = γ1 at *
  have H1 := Lib.hid h1
  have HK := Lib.hid hrest
  have HL := Lib.hid hl
  have c0 := h1.len
  have e4 := h1.own.cell hk6 (i := 4) (v := .int .i64 j) rfl
  have d1 : decide ((j : Int) < 0) = false := by simp
  have d2 : decide ((s.ls.length : Int) ≤ j) = false := by simp; omega
  clear h h1 hrest hl
  go_enter Try.func47, Try.ntmps47
  go_wp2_with fail
  generalize hW : w.alloc _ = W at *
  generalize w.heap.size = gx at *
  clear hW
  go_quiet (fail)
  clear c0 e4
  have h2 := H1.out.drewN nq
  generalize W.drewN nq = W2 at *
  obtain ⟨vc, vp, nx, pb, off, g1, c1, g2, c2, g3, c3, rv, ⟨rfl, c0, c1', c2', c3', c4', q0, q1, q2, q3, uc, up, un⟩, hend⟩ := h2.at_ HL.out
  dsimp only at q0 q1 q2 q3
  have e4 := h2.own.cell hk6 (i := 4) (v := .int .i64 j) rfl
  have hjn : (j : Int) < s.ls.length := by omega
  have H2 := Lib.hid h2
  clear h2 d1 d2
  go_wp2_with fail
  refine Perm.wp_region_pre [0, 1, 2, 3, 4, 5, 6, 7] [8, 9] (fun w' => w'.cell? ⟨gr, 0, none⟩ = some (.slice (some ⟨pb, off, none⟩) s.ls.length cap) ∧ w'.cell? ⟨gx, 4, none⟩ = some (.int .i64 j) ∧ w'.cell? ⟨pb, off + j * 4, none⟩ = some (.int .i64 1) ∧ w'.cell? ⟨pb, off + j * 4 + 1, none⟩ = some (.int .i64 d) ∧ w'.cell? ⟨pb, off + j * 4 + 2, none⟩ = some (.int .i64 tow) ∧ w'.cell? ⟨pb, off + j * 4 + 3, none⟩ = some (.int .i64 size)) (by kernel_rfl) (by kernel_rfl) (fun _ _ _ _ _ h => h) (by refine ⟨?_, ?_, ?_, ?_, ?_, ?_⟩ <;> simpa using by assumption) ?_
  repeat
    refine Perm.light_step rfl ?_ (fun w' hS => ?_) ?_
    rotate_left
    · (obtain ⟨s0, s1, s2, s3, s4, s5⟩ := hS; go_simp; try with_reducible rfl)
    simp only [Act.put, List.getElem_toArray, List.getElem_cons_zero, List.getElem_cons_succ, List.setIfInBounds_toArray, List.set_cons_zero, List.set_cons_succ]
  refine Perm.light_nil ?_
  have h3 := H2.out.drew.box (r + 7) (by omega) (.cells #[.int .i64 1, .int .i64 d, .int .i64 tow, .int .i64 size] 78)
  have k7 := put_same γ1 (r + 7) W2.drew.heap.size (.cells #[.int .i64 1, .int .i64 d, .int .i64 tow, .int .i64 size] 78)
  have k6 : put γ1 (r + 7) W2.drew.heap.size (.cells #[.int .i64 1, .int .i64 d, .int .i64 tow, .int .i64 size] 78) (r + 6) = _ := (put_other _ _ _ (by omega)).trans hk6
  have krest : ∀ t, t ≠ r + 7 → put γ1 (r + 7) W2.drew.heap.size (.cells #[.int .i64 1, .int .i64 d, .int .i64 tow, .int .i64 size] 78) t = γ1 t := fun t ht => put_other _ _ _ ht
  refine Perm.tail_run rfl (by rfl) (.value (.pointer (some ⟨W2.drew.heap.size, 0, none⟩))) _ (.inl rfl) (w' := W2.drew.alloc (.cells #[.int .i64 0, .int .i64 0, .int .i64 0, .int .i64 0] 78)) (by go_simp; try with_reducible rfl) (fun _ hS => ⟨cell_on hS.1 _, cell_on hS.2.1 _, cell_on hS.2.2.1 _, cell_on hS.2.2.2.1 _, cell_on hS.2.2.2.2.1 _, cell_on hS.2.2.2.2.2 _⟩) ?_
  simp only [Act.put, List.getElem_toArray, List.getElem_cons_zero, List.getElem_cons_succ, List.setIfInBounds_toArray, List.set_cons_zero, List.set_cons_succ]
  refine Perm.tail_run rfl (by rfl) .skip undef (.inr ⟨rfl, rfl⟩) (w' := W2.drew.alloc (.cells #[.int .i64 1, .int .i64 d, .int .i64 tow, .int .i64 size] 78)) (by go_simp; try with_reducible rfl) (Perm.no_need (by kernel_rfl)) ?_
  simp only [Act.put, List.getElem_toArray, List.getElem_cons_zero, List.getElem_cons_succ, List.setIfInBounds_toArray, List.set_cons_zero, List.set_cons_succ]
  refine Perm.tail_nil ?_
  generalize put γ1 (r + 7) _ _ = γ3 at *
  generalize W2.drew.alloc _ = W3 at *
  generalize W2.drew.heap.size = gy at *
  clear c0 c1' c2' c3' c4' q0 q1 q2 q3 uc up un e4 hend hk6
  obtain ⟨vc, vp, nx, pb', off', g1, c1, g2, c2, g3, c3, rv, ⟨hA', c0, c1', c2', c3', c4', q0, q1, q2, q3, uc, up, un⟩, hend⟩ := h3.at_ HL.out
  cases hA'
  clear q0 q1 q2 q3
  have e3 := h3.own.cell k6 (i := 3) (v := .int .i64 29) rfl
  have e4 := h3.own.cell k6 (i := 4) (v := .int .i64 j) rfl
  have e5 := h3.own.cell k6 (i := 5) (v := .int .i64 b') rfl
  have e6 := h3.own.cell k6 (i := 6) (v := .int .i64 v) rfl
  have l0 := h3.own.cell k7 (i := 0) (v := .int .i64 1) rfl
  have l1 := h3.own.cell k7 (i := 1) (v := .int .i64 d) rfl
  have l2 := h3.own.cell k7 (i := 2) (v := .int .i64 tow) rfl
  have H3 := Lib.hid h3
  have HR : Hid (∀ t, (t < r ∨ r + 50 ≤ t) → γ3 t = γ t) := Lib.hid fun t ht => (krest t (by omega)).trans (HK.out t ht)
  clear h3 H1 H2 HK krest
  obtain ⟨gc, gp, c', z, all, rfl, rfl, hC, hok, hP, z1, z8, zl, hmt⟩ := hend
  rw [he] at hmt
  have hcc := hmt.2.symm
  subst hcc
  clear hmt
  have HC := Lib.hid hC
  have HP := Lib.hid hP
  clear hC hP
  go_wp2_with fail
  go_quiet (fail)
  go_wp2_with fail
  refine (rcEnd_any (H3.out.own.drewN nq) HC.out hok (by omega) t).mono ?_
  rintro e w5 ⟨rfl, γ5, ho5, hC5, hk5⟩
  have hfin : rdPost w0 γ r gr (some ⟨pb, off, none⟩) cap (q + 1) (c.endE t, 0, 0, { s with en := updE s.en j (.cell (c.end_ t)) }) (.returned (.tuple #[.int .i64 (c.endE t), .int .i64 0, .int .i64 0])) w5 := by
    refine ⟨rfl, γ5, ((H3.out.drewN nq).turn ho5 HL.out (fun k hk => hk5 k (by omega) (by omega)) fun vc vp nx hen => ?_).more (Nat.le_succ q), fun k hk => (hk5 k (by omega) (by omega)).trans (HR.out k hk)⟩
    obtain ⟨gc', gp', c'', z', all', rfl, rfl, hC', hok', hP', z1', z8', zl', hm'⟩ := hen
    rw [he] at hm'
    obtain ⟨hk1, hcc⟩ := hm'
    subst hcc
    have hgc : gc' = gc := by
      obtain ⟨_, _, _, _, _, _, _, x1, _⟩ := hC'
      obtain ⟨_, _, _, _, _, _, _, x2, _⟩ := HC.out
      rw [x1] at x2
      exact (Prod.mk.inj (Option.some.inj x2)).1
    subst hgc
    exact ⟨gc', gp', _, z', all', rfl, rfl, hC5, by exact hok'.end_ t hcq, hP'.keep (hk5 _ (by omega) (by omega)) (hk5 _ (by omega) (by omega)), z1', z8', zl', hk1, rfl⟩
  have HF := Lib.hid hfin
  clear hfin ho5 hC5 hk5
  rw [ans_eq]
  generalize c.endE t = x1 at *
  go_wp2_with fail
  refine bodyPost_ret (results_tmp3 rfl _ _ _) rfl ?_
  exact HF.out

end
end Go.Proofs.Ytniiefcbiapieaa