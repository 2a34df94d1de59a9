/- What the reference's Do comes to: values, and the reader's ops. -/
import Derived.Test.YtniiefcbiapieaaRefDo
import Derived.Test.YtniiefcbiapieaaPlan
namespace Go.Proofs.Ytniiefcbiapieaa
open Go.RowKit Go.ChangeMaps Go.WideShapes
theorem fnDel_self (f : Int → Int → Option (Int × Int)) (d t : Int) : fnDel f d t d t = none := by simp [fnDel]
theorem enters23 : enters Try.prog 23 = true := by kernel_rfl
section
variable {w0 w : World} {γ : Nat → Option (Nat × Obj)} {r gr cap q : Nat} {A : Option Addr} {s : LS}

set_option maxRecDepth 100000 in
set_option maxHeartbeats 8000000 in
theorem rdo_send (h : RefL w0 γ r gr A cap q s w) (hq : q < 999) (d t k dm pk b' v : Int) {j : Nat} {kind tow size : Int} {z : Nat} {all : List Int} {next : Int} (hl : s.ls[j]? = some ⟨kind, d, tow, size⟩) (hkd : kind ≠ 1) (he : s.en j = .tap z all next) (hage : all.length < 999) :
    Calls Try.prog 47 #[.pointer (some ⟨gr, 0, none⟩), .int .i64 d, .int .i64 t, .agg #[.int .i64 k, .int .i64 dm, .int .i64 pk, .int .i64 33, .int .i64 j, .int .i64 b', .int .i64 v]] w (rdPost w0 γ r gr A cap (q + 1) (0, 0, 0, { s with en := updE s.en j (.tap z (all ++ [b']) next) })) := by
  have hj : j < s.ls.length := (List.getElem?_eq_some_iff.1 hl).1
  have h10 : s.ls.length ≤ 10 := h.2.1.1
  have h1 := h.box (r + 6) (by omega) (entO k dm pk 33 j b' v)
  have hk6 := put_same γ (r + 6) w.heap.size (entO k dm pk 33 j b' v)
  have hrest : ∀ t, (t < r ∨ r + 50 ≤ t) → put γ (r + 6) w.heap.size (entO k dm pk 33 j b' v) t = γ t := fun t ht => put_other _ _ _ (by omega)
  unfold entO at h1 hk6 hrest
  generalize put γ (r + 6) _ _ = γ1 at *
  have H1 := Lib.hid h1
  have HK := Lib.hid hrest
  have HL := Lib.hid hl
  have c0 := h1.len
  have e4 := h1.own.cell hk6 (i := 4) (v := .int .i64 j) rfl
  have d1 : decide ((j : Int) < 0) = false := by simp
  have d2 : decide ((s.ls.length : Int) ≤ j) = false := by simp; omega
  have bk : (kind == 1) = false := by simpa using hkd
  have HKD := Lib.hid hkd
  clear hkd
  clear h h1 hrest hl
  go_enter Try.func47, Try.ntmps47
  go_wp2_with fail
  generalize hW : w.alloc _ = W at *
  generalize w.heap.size = gx at *
  clear hW
  go_quiet (fail)
  clear c0 e4
  have h2 := H1.out.drewN nq
  generalize W.drewN nq = W2 at *
  obtain ⟨vc, vp, nx, pb, off, g1, c1, g2, c2, g3, c3, rv, ⟨rfl, c0, c1', c2', c3', c4', q0, q1, q2, q3, uc, up, un⟩, hend⟩ := h2.at_ HL.out
  dsimp only at q0 q1 q2 q3
  have e4 := h2.own.cell hk6 (i := 4) (v := .int .i64 j) rfl
  have hjn : (j : Int) < s.ls.length := by omega
  have H2 := Lib.hid h2
  clear h2 d1 d2
  go_wp2_with fail
  refine Perm.wp_region_pre [0, 1, 2, 3, 4, 5, 6, 7] [8, 9] (fun w' => w'.cell? ⟨gr, 0, none⟩ = some (.slice (some ⟨pb, off, none⟩) s.ls.length cap) ∧ w'.cell? ⟨gx, 4, none⟩ = some (.int .i64 j) ∧ w'.cell? ⟨pb, off + j * 4, none⟩ = some (.int .i64 kind) ∧ w'.cell? ⟨pb, off + j * 4 + 1, none⟩ = some (.int .i64 d) ∧ w'.cell? ⟨pb, off + j * 4 + 2, none⟩ = some (.int .i64 tow) ∧ w'.cell? ⟨pb, off + j * 4 + 3, none⟩ = some (.int .i64 size)) (by kernel_rfl) (by kernel_rfl) (fun _ _ _ _ _ h => h) (by refine ⟨?_, ?_, ?_, ?_, ?_, ?_⟩ <;> simpa using by assumption) ?_
  repeat
    refine Perm.light_step rfl ?_ (fun w' hS => ?_) ?_
    rotate_left
    · (obtain ⟨s0, s1, s2, s3, s4, s5⟩ := hS; go_simp; try with_reducible rfl)
    simp only [Act.put, List.getElem_toArray, List.getElem_cons_zero, List.getElem_cons_succ, List.setIfInBounds_toArray, List.set_cons_zero, List.set_cons_succ]
  refine Perm.light_nil ?_
  have h3 := H2.out.drew.box (r + 7) (by omega) (.cells #[.int .i64 kind, .int .i64 d, .int .i64 tow, .int .i64 size] 78)
  have k7 := put_same γ1 (r + 7) W2.drew.heap.size (.cells #[.int .i64 kind, .int .i64 d, .int .i64 tow, .int .i64 size] 78)
  have k6 : put γ1 (r + 7) W2.drew.heap.size (.cells #[.int .i64 kind, .int .i64 d, .int .i64 tow, .int .i64 size] 78) (r + 6) = _ := (put_other _ _ _ (by omega)).trans hk6
  have krest : ∀ t, t ≠ r + 7 → put γ1 (r + 7) W2.drew.heap.size (.cells #[.int .i64 kind, .int .i64 d, .int .i64 tow, .int .i64 size] 78) t = γ1 t := fun t ht => put_other _ _ _ ht
  refine Perm.tail_run rfl (by rfl) (.value (.pointer (some ⟨W2.drew.heap.size, 0, none⟩))) _ (.inl rfl) (w' := W2.drew.alloc (.cells #[.int .i64 0, .int .i64 0, .int .i64 0, .int .i64 0] 78)) (by go_simp; try with_reducible rfl) (fun _ hS => ⟨cell_on hS.1 _, cell_on hS.2.1 _, cell_on hS.2.2.1 _, cell_on hS.2.2.2.1 _, cell_on hS.2.2.2.2.1 _, cell_on hS.2.2.2.2.2 _⟩) ?_
  simp only [Act.put, List.getElem_toArray, List.getElem_cons_zero, List.getElem_cons_succ, List.setIfInBounds_toArray, List.set_cons_zero, List.set_cons_succ]
  refine Perm.tail_run rfl (by rfl) .skip undef (.inr ⟨rfl, rfl⟩) (w' := W2.drew.alloc (.cells #[.int .i64 kind, .int .i64 d, .int .i64 tow, .int .i64 size] 78)) (by go_simp; try with_reducible rfl) (Perm.no_need (by kernel_rfl)) ?_
  simp only [Act.put, List.getElem_toArray, List.getElem_cons_zero, List.getElem_cons_succ, List.setIfInBounds_toArray, List.set_cons_zero, List.set_cons_succ]
  refine Perm.tail_nil ?_
  generalize put γ1 (r + 7) _ _ = γ3 at *
  generalize W2.drew.alloc _ = W3 at *
  generalize W2.drew.heap.size = gy at *
  clear c0 c1' c2' c3' c4' q0 q1 q2 q3 uc up un e4 hend hk6
  obtain ⟨vc, vp, nx, pb', off', g1, c1, g2, c2, g3, c3, rv, ⟨hA', c0, c1', c2', c3', c4', q0, q1, q2, q3, uc, up, un⟩, hend⟩ := h3.at_ HL.out
  cases hA'
  clear q0 q1 q2 q3
  have e3 := h3.own.cell k6 (i := 3) (v := .int .i64 33) rfl
  have e4 := h3.own.cell k6 (i := 4) (v := .int .i64 j) rfl
  have e5 := h3.own.cell k6 (i := 5) (v := .int .i64 b') rfl
  have e6 := h3.own.cell k6 (i := 6) (v := .int .i64 v) rfl
  have l0 := h3.own.cell k7 (i := 0) (v := .int .i64 kind) rfl
  have l1 := h3.own.cell k7 (i := 1) (v := .int .i64 d) rfl
  have l2 := h3.own.cell k7 (i := 2) (v := .int .i64 tow) rfl
  have H3 := Lib.hid h3
  have HR : Hid (∀ t, (t < r ∨ r + 50 ≤ t) → γ3 t = γ t) := Lib.hid fun t ht => (krest t (by omega)).trans (HK.out t ht)
  clear h3 H1 H2 HK krest
  obtain ⟨gc, gp, c', z', all', rfl, rfl, hC, hok, hP, z1, z8, zl, hmt⟩ := hend
  rw [he] at hmt
  obtain ⟨_, h1, h2, h3⟩ := hmt
  have hz := h1.symm
  have ha := h2.symm
  have hn := h3.symm
  subst hz ha hn
  clear h1 h2 h3
  have HC := Lib.hid hC
  have HP := Lib.hid hP
  clear hC hP
  go_wp2_with fail
  go_quiet (fail)
  go_wp2_with fail
  refine (refSend_any (H3.out.own.drewN nq) HP.out (by omega) (by omega) b').mono ?_
  rintro e w5 ⟨rfl, γ5, ho5, hP5, hk5⟩
  have hfin : rdPost w0 γ r gr (some ⟨pb, off, none⟩) cap (q + 1) (0, 0, 0, { s with en := updE s.en j (.tap z (all ++ [b']) next) }) (.returned (.tuple #[.int .i64 0, .int .i64 0, .int .i64 0])) w5 := by
    refine ⟨rfl, γ5, ((H3.out.drewN nq).turn ho5 HL.out (fun k hk => hk5 k (by omega) (by omega)) fun vc vp nx hen => ?_).more (Nat.le_succ q), fun k hk => (hk5 k (by omega) (by omega)).trans (HR.out k hk)⟩
    obtain ⟨gc', gp', c'', z', all', rfl, rfl, hC', hok', hP', z1', z8', zl', hm'⟩ := hen
    rw [he] at hm'
    obtain ⟨hk1, rfl, rfl, rfl⟩ := hm'
    have hgp : gp' = gp := by
      obtain ⟨_, x1, _⟩ := hP'
      obtain ⟨_, x2, _⟩ := HP.out
      rw [x1] at x2
      exact (Prod.mk.inj (Option.some.inj x2)).1
    subst hgp
    exact ⟨gc', gp', c'', _, _, rfl, rfl, hC'.keep (hk5 _ (by omega) (by omega)) (hk5 _ (by omega) (by omega)), hok', hP5, z1', z8', by rw [List.length_append]; show _ + 1 < 1000; omega, hk1, rfl, rfl, rfl⟩
  have HF := Lib.hid hfin
  clear hfin ho5 hP5 hk5
  go_wp2_with fail
  refine bodyPost_ret (results_tmp3 rfl _ _ _) rfl ?_
  exact HF.out

set_option maxRecDepth 100000 in
set_option maxHeartbeats 8000000 in
theorem rdo_recv (h : RefL w0 γ r gr A cap q s w) (hq : q < 999) (d t k dm pk b' v : Int) {j : Nat} {kind fr size : Int} {z : Nat} {all : List Int} {next : Int} (hl : s.ls[j]? = some ⟨kind, fr, d, size⟩) (hkd : kind ≠ 1) (he : s.en j = .tap z all next) (hage : all.length < 999) :
    Calls Try.prog 47 #[.pointer (some ⟨gr, 0, none⟩), .int .i64 d, .int .i64 t, .agg #[.int .i64 k, .int .i64 dm, .int .i64 pk, .int .i64 34, .int .i64 j, .int .i64 b', .int .i64 v]] w (rdPost w0 γ r gr A cap (q + 1) (recvE all next, recvV z all next, recvL z all next, { s with en := updE s.en j (.tap z all (recvA z all next)) })) := by
  have hj : j < s.ls.length := (List.getElem?_eq_some_iff.1 hl).1
  have h10 : s.ls.length ≤ 10 := h.2.1.1
  have h1 := h.box (r + 6) (by omega) (entO k dm pk 34 j b' v)
  have hk6 := put_same γ (r + 6) w.heap.size (entO k dm pk 34 j b' v)
  have hrest : ∀ t, (t < r ∨ r + 50 ≤ t) → put γ (r + 6) w.heap.size (entO k dm pk 34 j b' v) t = γ t := fun t ht => put_other _ _ _ (by omega)
  unfold entO at h1 hk6 hrest
  generalize put γ (r + 6) _ _ = γ1 at *
  have H1 := Lib.hid h1
  have HK := Lib.hid hrest
  have HL := Lib.hid hl
  have c0 := h1.len
  have e4 := h1.own.cell hk6 (i := 4) (v := .int .i64 j) rfl
  have d1 : decide ((j : Int) < 0) = false := by simp
  have d2 : decide ((s.ls.length : Int) ≤ j) = false := by simp; omega
  have bk : (kind == 1) = false := by simpa using hkd
  have HKD := Lib.hid hkd
  clear hkd
  clear h h1 hrest hl
  go_enter Try.func47, Try.ntmps47
  go_wp2_with fail
  generalize hW : w.alloc _ = W at *
  generalize w.heap.size = gx at *
  clear hW
  go_quiet (fail)
  clear c0 e4
  have h2 := H1.out.drewN nq
  generalize W.drewN nq = W2 at *
  obtain ⟨vc, vp, nx, pb, off, g1, c1, g2, c2, g3, c3, rv, ⟨rfl, c0, c1', c2', c3', c4', q0, q1, q2, q3, uc, up, un⟩, hend⟩ := h2.at_ HL.out
  dsimp only at q0 q1 q2 q3
  have e4 := h2.own.cell hk6 (i := 4) (v := .int .i64 j) rfl
  have hjn : (j : Int) < s.ls.length := by omega
  have H2 := Lib.hid h2
  clear h2 d1 d2
  go_wp2_with fail
  refine Perm.wp_region_pre [0, 1, 2, 3, 4, 5, 6, 7] [8, 9] (fun w' => w'.cell? ⟨gr, 0, none⟩ = some (.slice (some ⟨pb, off, none⟩) s.ls.length cap) ∧ w'.cell? ⟨gx, 4, none⟩ = some (.int .i64 j) ∧ w'.cell? ⟨pb, off + j * 4, none⟩ = some (.int .i64 kind) ∧ w'.cell? ⟨pb, off + j * 4 + 1, none⟩ = some (.int .i64 fr) ∧ w'.cell? ⟨pb, off + j * 4 + 2, none⟩ = some (.int .i64 d) ∧ w'.cell? ⟨pb, off + j * 4 + 3, none⟩ = some (.int .i64 size)) (by kernel_rfl) (by kernel_rfl) (fun _ _ _ _ _ h => h) (by refine ⟨?_, ?_, ?_, ?_, ?_, ?_⟩ <;> simpa using by assumption) ?_
  repeat
    refine Perm.light_step rfl ?_ (fun w' hS => ?_) ?_
    rotate_left
    · (obtain ⟨s0, s1, s2, s3, s4, s5⟩ := hS; go_simp; try with_reducible rfl)
    simp only [Act.put, List.getElem_toArray, List.getElem_cons_zero, List.getElem_cons_succ, List.setIfInBounds_toArray, List.set_cons_zero, List.set_cons_succ]
  refine Perm.light_nil ?_
  have h3 := H2.out.drew.box (r + 7) (by omega) (.cells #[.int .i64 kind, .int .i64 fr, .int .i64 d, .int .i64 size] 78)
  have k7 := put_same γ1 (r + 7) W2.drew.heap.size (.cells #[.int .i64 kind, .int .i64 fr, .int .i64 d, .int .i64 size] 78)
  have k6 : put γ1 (r + 7) W2.drew.heap.size (.cells #[.int .i64 kind, .int .i64 fr, .int .i64 d, .int .i64 size] 78) (r + 6) = _ := (put_other _ _ _ (by omega)).trans hk6
  have krest : ∀ t, t ≠ r + 7 → put γ1 (r + 7) W2.drew.heap.size (.cells #[.int .i64 kind, .int .i64 fr, .int .i64 d, .int .i64 size] 78) t = γ1 t := fun t ht => put_other _ _ _ ht
  refine Perm.tail_run rfl (by rfl) (.value (.pointer (some ⟨W2.drew.heap.size, 0, none⟩))) _ (.inl rfl) (w' := W2.drew.alloc (.cells #[.int .i64 0, .int .i64 0, .int .i64 0, .int .i64 0] 78)) (by go_simp; try with_reducible rfl) (fun _ hS => ⟨cell_on hS.1 _, cell_on hS.2.1 _, cell_on hS.2.2.1 _, cell_on hS.2.2.2.1 _, cell_on hS.2.2.2.2.1 _, cell_on hS.2.2.2.2.2 _⟩) ?_
  simp only [Act.put, List.getElem_toArray, List.getElem_cons_zero, List.getElem_cons_succ, List.setIfInBounds_toArray, List.set_cons_zero, List.set_cons_succ]
  refine Perm.tail_run rfl (by rfl) .skip undef (.inr ⟨rfl, rfl⟩) (w' := W2.drew.alloc (.cells #[.int .i64 kind, .int .i64 fr, .int .i64 d, .int .i64 size] 78)) (by go_simp; try with_reducible rfl) (Perm.no_need (by kernel_rfl)) ?_
  simp only [Act.put, List.getElem_toArray, List.getElem_cons_zero, List.getElem_cons_succ, List.setIfInBounds_toArray, List.set_cons_zero, List.set_cons_succ]
  refine Perm.tail_nil ?_
  generalize put γ1 (r + 7) _ _ = γ3 at *
  generalize W2.drew.alloc _ = W3 at *
  generalize W2.drew.heap.size = gy at *
  clear c0 c1' c2' c3' c4' q0 q1 q2 q3 uc up un e4 hend hk6
  obtain ⟨vc, vp, nx, pb', off', g1, c1, g2, c2, g3, c3, rv, ⟨hA', c0, c1', c2', c3', c4', q0, q1, q2, q3, uc, up, un⟩, hend⟩ := h3.at_ HL.out
  cases hA'
  clear q0 q1 q2 q3
  have e3 := h3.own.cell k6 (i := 3) (v := .int .i64 34) rfl
  have e4 := h3.own.cell k6 (i := 4) (v := .int .i64 j) rfl
  have e5 := h3.own.cell k6 (i := 5) (v := .int .i64 b') rfl
  have e6 := h3.own.cell k6 (i := 6) (v := .int .i64 v) rfl
  have l0 := h3.own.cell k7 (i := 0) (v := .int .i64 kind) rfl
  have l1 := h3.own.cell k7 (i := 1) (v := .int .i64 fr) rfl
  have l2 := h3.own.cell k7 (i := 2) (v := .int .i64 d) rfl
  have H3 := Lib.hid h3
  have HR : Hid (∀ t, (t < r ∨ r + 50 ≤ t) → γ3 t = γ t) := Lib.hid fun t ht => (krest t (by omega)).trans (HK.out t ht)
  clear h3 H1 H2 HK krest
  obtain ⟨gc, gp, c', z', all', rfl, rfl, hC, hok, hP, z1, z8, zl, hmt⟩ := hend
  rw [he] at hmt
  obtain ⟨_, h1, h2, h3⟩ := hmt
  have hz := h1.symm
  have ha := h2.symm
  have hn := h3.symm
  subst hz ha hn
  clear h1 h2 h3
  have HC := Lib.hid hC
  have HP := Lib.hid hP
  clear hC hP
  go_wp2_with fail
  go_quiet (fail)
  go_wp2_with fail
  have hrc := refRecv_any (H3.out.own.drewN nq).drew HP.out z1 z8 (by omega) next
  unfold rec4 at hrc
  obtain ⟨xA, hxA⟩ : ∃ x, x = recvA z all next := ⟨_, rfl⟩
  rw [← hxA] at hrc ⊢
  generalize recvV z all next = x1 at *
  generalize recvL z all next = x2 at *
  generalize recvE all next = x3 at *
  have HXA := Lib.hid hxA
  clear hxA
  refine Perm.wp_region_pre [0, 1, 2, 3, 4, 5, 6, 7, 8] [9, 10, 11, 12, 13, 14, 15, 16, 17, 18] (fun w' => w'.cell? ⟨gr, 3, none⟩ = some (.slice (some ⟨g3, 0, none⟩) s.ls.length c3) ∧ w'.cell? ⟨gx, 4, none⟩ = some (.int .i64 j) ∧ w'.cell? ⟨g3, j, none⟩ = some (.int .i64 next)) (by kernel_rfl) (by kernel_rfl) (fun _ _ _ _ _ h => h) (by refine ⟨?_, ?_, ?_⟩ <;> simpa using by assumption) ?_
  repeat
    refine Perm.light_step rfl ?_ (fun w' hS => ?_) ?_
    rotate_left
    · (obtain ⟨s0, s1, s2⟩ := hS; go_simp; try with_reducible rfl)
    simp only [Act.put, List.getElem_toArray, List.getElem_cons_zero, List.getElem_cons_succ, List.setIfInBounds_toArray, List.set_cons_zero, List.set_cons_succ]
  refine Perm.light_nil ?_
  refine Perm.tail_call rfl (by rfl) 23 _ _ rfl enters23 #[.pointer (some ⟨gp, 0, none⟩), .int .i64 next] (by rfl) (hrc.mono ?_)
  rintro e w5 ⟨rfl, ho5⟩
  refine ⟨_, rfl, Perm.no_need (by kernel_rfl), ?_⟩
  simp only [Act.put, List.getElem_toArray, List.getElem_cons_zero, List.getElem_cons_succ, List.setIfInBounds_toArray, List.set_cons_zero, List.set_cons_succ]
  repeat
    refine Perm.tail_pure rfl (by rfl) ?_ (fun w' => ?_) ?_
    rotate_left
    · (go_simp; try with_reducible rfl)
    simp only [Act.put, List.getElem_toArray, List.getElem_cons_zero, List.getElem_cons_succ, List.setIfInBounds_toArray, List.set_cons_zero, List.set_cons_succ]
  refine Perm.tail_nil ?_
  have h5 := H3.out.keep ho5 fun _ _ => rfl
  have e4' := ho5.cell k6 (i := 4) (v := .int .i64 j) rfl
  obtain ⟨vc, vp, nx, pb', off', g1', c1'', g2', c2'', g3', c3'', rv', ⟨hA', _, _, _, cc3, _, _, _, _, _, _, _, _⟩, _⟩ := h5.at_ HL.out
  clear hA'
  obtain ⟨⟨u, hu⟩, hfr, γ6, h6, hk6'⟩ := h5.next (x := xA) (e' := .tap z all xA) HL.out g3' c3'' cc3 (fun vc vp nx hen => by
    obtain ⟨gc', gp', c'', z', all', rfl, rfl, hC', hok', hP', z1', z8', zl', hm'⟩ := hen
    rw [he] at hm'
    obtain ⟨hk1, rfl, rfl, rfl⟩ := hm'
    exact ⟨gc', gp', c'', _, _, rfl, rfl, hC', hok', hP', z1', z8', zl', hk1, rfl, rfl, rfl⟩)
  have HF : Hid (∀ w', w' = (w5.setCell ⟨g3', j, none⟩ (.int .i64 xA)).drew → rdPost w0 γ r gr (some ⟨pb, off, none⟩) cap (q + 1) (x3, x1, x2, { s with en := updE s.en j (.tap z all xA) }) (.returned (.tuple #[.int .i64 x3, .int .i64 x1, .int .i64 x2])) w') := Lib.hid fun w' hw' => by
    subst hw'
    exact ⟨rfl, γ6, h6.drew.more (Nat.le_succ q), fun k hk => (hk6' k (by omega)).trans (HR.out k hk)⟩
  clear h5 h6 hk6' hrc c0 c1' c2' c3' c4' uc up un e3 e4 e5 e6 l0 l1 l2 k6 k7 ho5
  go_wp2_with fail
  refine Perm.wp_region_pre [0, 1, 2, 3, 4, 5, 6, 7] [8] (fun w' => w'.cell? ⟨gr, 3, none⟩ = some (.slice (some ⟨g3', 0, none⟩) s.ls.length c3'') ∧ w'.cell? ⟨gx, 4, none⟩ = some (.int .i64 j)) (by kernel_rfl) (by kernel_rfl) (fun _ _ _ _ _ h => h) (by refine ⟨?_, ?_⟩ <;> simpa using by assumption) ?_
  repeat
    refine Perm.light_step rfl ?_ (fun w' hS => ?_) ?_
    rotate_left
    · (obtain ⟨s0, s1⟩ := hS; go_simp; try with_reducible rfl)
    simp only [Act.put, List.getElem_toArray, List.getElem_cons_zero, List.getElem_cons_succ, List.setIfInBounds_toArray, List.set_cons_zero, List.set_cons_succ]
  refine Perm.light_nil ?_
  refine Perm.tail_run rfl (by rfl) .skip undef (.inr ⟨rfl, rfl⟩) (w' := w5.drew.setCell ⟨g3', j, none⟩ (.int .i64 xA)) (by go_simp; try with_reducible rfl) (Perm.no_need (by kernel_rfl)) ?_
  simp only [Act.put, List.getElem_toArray, List.getElem_cons_zero, List.getElem_cons_succ, List.setIfInBounds_toArray, List.set_cons_zero, List.set_cons_succ]
  refine Perm.tail_nil ?_
  have HF2 := Lib.hid (HF.out _ rfl)
  go_wp2_with fail
  refine bodyPost_ret (results_tmp3 rfl _ _ _) rfl ?_
  have hx := HXA.out
  subst hx
  exact HF2.out

set_option maxRecDepth 100000 in
set_option maxHeartbeats 8000000 in
theorem rdo_torn (h : RefL w0 γ r gr A cap q s w) (hq : q < 999) (d t k dm pk b' v : Int) {j : Nat} {fr size : Int} {c : CS} (hl : s.ls[j]? = some ⟨1, fr, d, size⟩) (he : s.en j = .cell c) (ht : c.t ≠ 0) :
    Calls Try.prog 47 #[.pointer (some ⟨gr, 0, none⟩), .int .i64 d, .int .i64 t, .agg #[.int .i64 k, .int .i64 dm, .int .i64 pk, .int .i64 30, .int .i64 j, .int .i64 b', .int .i64 v]] w (rdPost w0 γ r gr A cap (q + 1) (17, 0, 0, { s with f := fnDel s.f d t })) := by
  have hj : j < s.ls.length := (List.getElem?_eq_some_iff.1 hl).1
  have h10 : s.ls.length ≤ 10 := h.2.1.1
  have h1 := h.box (r + 6) (by omega) (entO k dm pk 30 j b' v)
  have hk6 := put_same γ (r + 6) w.heap.size (entO k dm pk 30 j b' v)
  have hrest : ∀ t, (t < r ∨ r + 50 ≤ t) → put γ (r + 6) w.heap.size (entO k dm pk 30 j b' v) t = γ t := fun t ht => put_other _ _ _ (by omega)
  unfold entO at h1 hk6 hrest
  generalize put γ (r + 6) _ _ = γ1 at *
  have H1 := Lib.hid h1
  have HK := Lib.hid hrest
  have HL := Lib.hid hl
  have c0 := h1.len
  have e4 := h1.own.cell hk6 (i := 4) (v := .int .i64 j) rfl
  have d1 : decide ((j : Int) < 0) = false := by simp
  have d2 : decide ((s.ls.length : Int) ≤ j) = false := by simp; omega
  clear h h1 hrest hl
  go_enter Try.func47, Try.ntmps47
  go_wp2_with fail
  generalize hW : w.alloc _ = W at *
  generalize w.heap.size = gx at *
  clear hW
  go_quiet (fail)
  clear c0 e4
  have h2 := H1.out.drewN nq
  generalize W.drewN nq = W2 at *
  obtain ⟨vc, vp, nx, pb, off, g1, c1, g2, c2, g3, c3, rv, ⟨rfl, c0, c1', c2', c3', c4', q0, q1, q2, q3, uc, up, un⟩, hend⟩ := h2.at_ HL.out
  dsimp only at q0 q1 q2 q3
  have e4 := h2.own.cell hk6 (i := 4) (v := .int .i64 j) rfl
  have hjn : (j : Int) < s.ls.length := by omega
  have H2 := Lib.hid h2
  clear h2 d1 d2
  go_wp2_with fail
  refine Perm.wp_region_pre [0, 1, 2, 3, 4, 5, 6, 7] [8, 9] (fun w' => w'.cell? ⟨gr, 0, none⟩ = some (.slice (some ⟨pb, off, none⟩) s.ls.length cap) ∧ w'.cell? ⟨gx, 4, none⟩ = some (.int .i64 j) ∧ w'.cell? ⟨pb, off + j * 4, none⟩ = some (.int .i64 1) ∧ w'.cell? ⟨pb, off + j * 4 + 1, none⟩ = some (.int .i64 fr) ∧ w'.cell? ⟨pb, off + j * 4 + 2, none⟩ = some (.int .i64 d) ∧ w'.cell? ⟨pb, off + j * 4 + 3, none⟩ = some (.int .i64 size)) (by kernel_rfl) (by kernel_rfl) (fun _ _ _ _ _ h => h) (by refine ⟨?_, ?_, ?_, ?_, ?_, ?_⟩ <;> simpa using by assumption) ?_
  repeat
    refine Perm.light_step rfl ?_ (fun w' hS => ?_) ?_
    rotate_left
    · (obtain ⟨s0, s1, s2, s3, s4, s5⟩ := hS; go_simp; try with_reducible rfl)
    simp only [Act.put, List.getElem_toArray, List.getElem_cons_zero, List.getElem_cons_succ, List.setIfInBounds_toArray, List.set_cons_zero, List.set_cons_succ]
  refine Perm.light_nil ?_
  have h3 := H2.out.drew.box (r + 7) (by omega) (.cells #[.int .i64 1, .int .i64 fr, .int .i64 d, .int .i64 size] 78)
  have k7 := put_same γ1 (r + 7) W2.drew.heap.size (.cells #[.int .i64 1, .int .i64 fr, .int .i64 d, .int .i64 size] 78)
  have k6 : put γ1 (r + 7) W2.drew.heap.size (.cells #[.int .i64 1, .int .i64 fr, .int .i64 d, .int .i64 size] 78) (r + 6) = _ := (put_other _ _ _ (by omega)).trans hk6
  have krest : ∀ t, t ≠ r + 7 → put γ1 (r + 7) W2.drew.heap.size (.cells #[.int .i64 1, .int .i64 fr, .int .i64 d, .int .i64 size] 78) t = γ1 t := fun t ht => put_other _ _ _ ht
  refine Perm.tail_run rfl (by rfl) (.value (.pointer (some ⟨W2.drew.heap.size, 0, none⟩))) _ (.inl rfl) (w' := W2.drew.alloc (.cells #[.int .i64 0, .int .i64 0, .int .i64 0, .int .i64 0] 78)) (by go_simp; try with_reducible rfl) (fun _ hS => ⟨cell_on hS.1 _, cell_on hS.2.1 _, cell_on hS.2.2.1 _, cell_on hS.2.2.2.1 _, cell_on hS.2.2.2.2.1 _, cell_on hS.2.2.2.2.2 _⟩) ?_
  simp only [Act.put, List.getElem_toArray, List.getElem_cons_zero, List.getElem_cons_succ, List.setIfInBounds_toArray, List.set_cons_zero, List.set_cons_succ]
  refine Perm.tail_run rfl (by rfl) .skip undef (.inr ⟨rfl, rfl⟩) (w' := W2.drew.alloc (.cells #[.int .i64 1, .int .i64 fr, .int .i64 d, .int .i64 size] 78)) (by go_simp; try with_reducible rfl) (Perm.no_need (by kernel_rfl)) ?_
  simp only [Act.put, List.getElem_toArray, List.getElem_cons_zero, List.getElem_cons_succ, List.setIfInBounds_toArray, List.set_cons_zero, List.set_cons_succ]
  refine Perm.tail_nil ?_
  generalize put γ1 (r + 7) _ _ = γ3 at *
  generalize W2.drew.alloc _ = W3 at *
  generalize W2.drew.heap.size = gy at *
  clear c0 c1' c2' c3' c4' q0 q1 q2 q3 uc up un e4 hend hk6
  obtain ⟨vc, vp, nx, pb', off', g1, c1, g2, c2, g3, c3, rv, ⟨hA', c0, c1', c2', c3', c4', q0, q1, q2, q3, uc, up, un⟩, hend⟩ := h3.at_ HL.out
  cases hA'
  clear q0 q1 q2 q3
  have e3 := h3.own.cell k6 (i := 3) (v := .int .i64 30) rfl
  have e4 := h3.own.cell k6 (i := 4) (v := .int .i64 j) rfl
  have e5 := h3.own.cell k6 (i := 5) (v := .int .i64 b') rfl
  have e6 := h3.own.cell k6 (i := 6) (v := .int .i64 v) rfl
  have l0 := h3.own.cell k7 (i := 0) (v := .int .i64 1) rfl
  have l1 := h3.own.cell k7 (i := 1) (v := .int .i64 fr) rfl
  have l2 := h3.own.cell k7 (i := 2) (v := .int .i64 d) rfl
  have H3 := Lib.hid h3
  have HR : Hid (∀ t, (t < r ∨ r + 50 ≤ t) → γ3 t = γ t) := Lib.hid fun t ht => (krest t (by omega)).trans (HK.out t ht)
  clear h3 H1 H2 HK krest
  obtain ⟨gc, gp, c', z, all, rfl, rfl, hC, hok, hP, z1, z8, zl, hmt⟩ := hend
  rw [he] at hmt
  have hcc := hmt.2.symm
  subst hcc
  clear hmt
  have HC := Lib.hid hC
  have HP := Lib.hid hP
  clear hC hP
  go_wp2_with fail
  go_quiet (fail)
  go_wp2_with fail
  refine (refForget_any (H3.out.drewN nq) (by omega) d t).mono ?_
  rintro e w5 ⟨rfl, γ5, h5, hk5⟩
  have hst := rcStart_any h5.own (HC.out.keep (hk5 _ (by omega) (by omega) (by omega)) (hk5 _ (by omega) (by omega) (by omega))) hok
  rw [show c.startN = 0 from if_pos ht, show c.startE = 17 from if_pos ht, ans2_eq] at hst
  have H5 := Lib.hid h5
  have HK5 := Lib.hid hk5
  clear h5 hk5
  go_wp2_with fail
  refine hst.mono ?_
  rintro e w6 ⟨rfl, ho6⟩
  have hfin : rdPost w0 γ r gr (some ⟨pb, off, none⟩) cap (q + 1) (17, 0, 0, { s with f := fnDel s.f d t }) (.returned (.tuple #[.int .i64 17, .int .i64 0, .int .i64 0])) w6 :=
    ⟨rfl, γ5, (H5.out.keep ho6 fun _ _ => rfl).more (Nat.le_succ q), fun k hk => (HK5.out k (by omega) (by omega) (by omega)).trans (HR.out k hk)⟩
  have HF := Lib.hid hfin
  clear hfin hst ho6
  go_wp2_with fail
  refine bodyPost_ret (results_tmp3 rfl _ _ _) rfl ?_
  exact HF.out

set_option maxRecDepth 100000 in
set_option maxHeartbeats 8000000 in
theorem rdo_begin (h : RefL w0 γ r gr A cap q s w) (hq : q < 999) (d t k dm pk b' v : Int) {j : Nat} {fr size : Int} {c : CS} (hl : s.ls[j]? = some ⟨1, fr, d, size⟩) (he : s.en j = .cell c) (ht : c.t = 0) (cq : Nat) (hcq : cq = c.q) :
    Calls Try.prog 47 #[.pointer (some ⟨gr, 0, none⟩), .int .i64 d, .int .i64 t, .agg #[.int .i64 k, .int .i64 dm, .int .i64 pk, .int .i64 30, .int .i64 j, .int .i64 b', .int .i64 v]] w (rdPost w0 γ r gr A cap (q + 1) (0, (cq : Int), 0, { s with f := fnPut (fnDel s.f d t) d t j cq })) := by
  have hj : j < s.ls.length := (List.getElem?_eq_some_iff.1 hl).1
  have h10 : s.ls.length ≤ 10 := h.2.1.1
  have h1 := h.box (r + 6) (by omega) (entO k dm pk 30 j b' v)
  have hk6 := put_same γ (r + 6) w.heap.size (entO k dm pk 30 j b' v)
  have hrest : ∀ t, (t < r ∨ r + 50 ≤ t) → put γ (r + 6) w.heap.size (entO k dm pk 30 j b' v) t = γ t := fun t ht => put_other _ _ _ (by omega)
  unfold entO at h1 hk6 hrest
  generalize put γ (r + 6) _ _ = γ1 at *
  have H1 := Lib.hid h1
  have HK := Lib.hid hrest
  have HL := Lib.hid hl
  have c0 := h1.len
  have e4 := h1.own.cell hk6 (i := 4) (v := .int .i64 j) rfl
  have d1 : decide ((j : Int) < 0) = false := by simp
  have d2 : decide ((s.ls.length : Int) ≤ j) = false := by simp; omega
  clear h h1 hrest hl
  go_enter Try.func47, Try.ntmps47
  go_wp2_with fail
  generalize hW : w.alloc _ = W at *
  generalize w.heap.size = gx at *
  clear hW
  go_quiet (fail)
  clear c0 e4
  have h2 := H1.out.drewN nq
  generalize W.drewN nq = W2 at *
  obtain ⟨vc, vp, nx, pb, off, g1, c1, g2, c2, g3, c3, rv, ⟨rfl, c0, c1', c2', c3', c4', q0, q1, q2, q3, uc, up, un⟩, hend⟩ := h2.at_ HL.out
  dsimp only at q0 q1 q2 q3
  have e4 := h2.own.cell hk6 (i := 4) (v := .int .i64 j) rfl
  have hjn : (j : Int) < s.ls.length := by omega
  have H2 := Lib.hid h2
  clear h2 d1 d2
  go_wp2_with fail
  refine Perm.wp_region_pre [0, 1, 2, 3, 4, 5, 6, 7] [8, 9] (fun w' => w'.cell? ⟨gr, 0, none⟩ = some (.slice (some ⟨pb, off, none⟩) s.ls.length cap) ∧ w'.cell? ⟨gx, 4, none⟩ = some (.int .i64 j) ∧ w'.cell? ⟨pb, off + j * 4, none⟩ = some (.int .i64 1) ∧ w'.cell? ⟨pb, off + j * 4 + 1, none⟩ = some (.int .i64 fr) ∧ w'.cell? ⟨pb, off + j * 4 + 2, none⟩ = some (.int .i64 d) ∧ w'.cell? ⟨pb, off + j * 4 + 3, none⟩ = some (.int .i64 size)) (by kernel_rfl) (by kernel_rfl) (fun _ _ _ _ _ h => h) (by refine ⟨?_, ?_, ?_, ?_, ?_, ?_⟩ <;> simpa using by assumption) ?_
  repeat
    refine Perm.light_step rfl ?_ (fun w' hS => ?_) ?_
    rotate_left
    · (obtain ⟨s0, s1, s2, s3, s4, s5⟩ := hS; go_simp; try with_reducible rfl)
    simp only [Act.put, List.getElem_toArray, List.getElem_cons_zero, List.getElem_cons_succ, List.setIfInBounds_toArray, List.set_cons_zero, List.set_cons_succ]
  refine Perm.light_nil ?_
  have h3 := H2.out.drew.box (r + 7) (by omega) (.cells #[.int .i64 1, .int .i64 fr, .int .i64 d, .int .i64 size] 78)
  have k7 := put_same γ1 (r + 7) W2.drew.heap.size (.cells #[.int .i64 1, .int .i64 fr, .int .i64 d, .int .i64 size] 78)
  have k6 : put γ1 (r + 7) W2.drew.heap.size (.cells #[.int .i64 1, .int .i64 fr, .int .i64 d, .int .i64 size] 78) (r + 6) = _ := (put_other _ _ _ (by omega)).trans hk6
  have krest : ∀ t, t ≠ r + 7 → put γ1 (r + 7) W2.drew.heap.size (.cells #[.int .i64 1, .int .i64 fr, .int .i64 d, .int .i64 size] 78) t = γ1 t := fun t ht => put_other _ _ _ ht
  refine Perm.tail_run rfl (by rfl) (.value (.pointer (some ⟨W2.drew.heap.size, 0, none⟩))) _ (.inl rfl) (w' := W2.drew.alloc (.cells #[.int .i64 0, .int .i64 0, .int .i64 0, .int .i64 0] 78)) (by go_simp; try with_reducible rfl) (fun _ hS => ⟨cell_on hS.1 _, cell_on hS.2.1 _, cell_on hS.2.2.1 _, cell_on hS.2.2.2.1 _, cell_on hS.2.2.2.2.1 _, cell_on hS.2.2.2.2.2 _⟩) ?_
  simp only [Act.put, List.getElem_toArray, List.getElem_cons_zero, List.getElem_cons_succ, List.setIfInBounds_toArray, List.set_cons_zero, List.set_cons_succ]
  refine Perm.tail_run rfl (by rfl) .skip undef (.inr ⟨rfl, rfl⟩) (w' := W2.drew.alloc (.cells #[.int .i64 1, .int .i64 fr, .int .i64 d, .int .i64 size] 78)) (by go_simp; try with_reducible rfl) (Perm.no_need (by kernel_rfl)) ?_
  simp only [Act.put, List.getElem_toArray, List.getElem_cons_zero, List.getElem_cons_succ, List.setIfInBounds_toArray, List.set_cons_zero, List.set_cons_succ]
  refine Perm.tail_nil ?_
  generalize put γ1 (r + 7) _ _ = γ3 at *
  generalize W2.drew.alloc _ = W3 at *
  generalize W2.drew.heap.size = gy at *
  clear c0 c1' c2' c3' c4' q0 q1 q2 q3 uc up un e4 hend hk6
  obtain ⟨vc, vp, nx, pb', off', g1, c1, g2, c2, g3, c3, rv, ⟨hA', c0, c1', c2', c3', c4', q0, q1, q2, q3, uc, up, un⟩, hend⟩ := h3.at_ HL.out
  cases hA'
  clear q0 q1 q2 q3
  have e3 := h3.own.cell k6 (i := 3) (v := .int .i64 30) rfl
  have e4 := h3.own.cell k6 (i := 4) (v := .int .i64 j) rfl
  have e5 := h3.own.cell k6 (i := 5) (v := .int .i64 b') rfl
  have e6 := h3.own.cell k6 (i := 6) (v := .int .i64 v) rfl
  have l0 := h3.own.cell k7 (i := 0) (v := .int .i64 1) rfl
  have l1 := h3.own.cell k7 (i := 1) (v := .int .i64 fr) rfl
  have l2 := h3.own.cell k7 (i := 2) (v := .int .i64 d) rfl
  have H3 := Lib.hid h3
  have HR : Hid (∀ t, (t < r ∨ r + 50 ≤ t) → γ3 t = γ t) := Lib.hid fun t ht => (krest t (by omega)).trans (HK.out t ht)
  clear h3 H1 H2 HK krest
  obtain ⟨gc, gp, c', z, all, rfl, rfl, hC, hok, hP, z1, z8, zl, hmt⟩ := hend
  rw [he] at hmt
  have hcc := hmt.2.symm
  subst hcc
  clear hmt
  have HC := Lib.hid hC
  have HP := Lib.hid hP
  clear hC hP
  go_wp2_with fail
  go_quiet (fail)
  go_wp2_with fail
  refine (refForget_any (H3.out.drewN nq) (by omega) d t).mono ?_
  rintro e w5 ⟨rfl, γ5, h5, hk5⟩
  have hst := rcStart_any h5.own (HC.out.keep (hk5 _ (by omega) (by omega) (by omega)) (hk5 _ (by omega) (by omega) (by omega))) hok
  rw [show c.startN = c.q from if_neg (by simpa using ht), show c.startE = 0 from if_neg (by simpa using ht), ans2_eq] at hst
  have hsm := hok.small
  rw [← hcq] at hst hsm
  have g6 := (hk5 (r + 6) (by omega) (by omega) (by omega)).trans k6
  have H5 := Lib.hid h5
  have HK5 := Lib.hid hk5
  clear h5 hk5 hcq
  go_wp2_with fail
  refine hst.mono ?_
  rintro e w6 ⟨rfl, ho6⟩
  obtain ⟨_, hin, cv, pv, nv, rv6, vc6, vp6, nx6, rd, a0, a1, a2, a3, a4, a5, a6, a7⟩ := H5.out
  have hone := links_one rd
  obtain ⟨n, hn⟩ : ∃ n, n = rd.length := ⟨_, rfl⟩
  rw [← hn] at a4 a6
  have hrd : ∀ w' γ', Own w0 w' γ' → γ' (r + 4) = γ5 (r + 4) → Reads w' 4 rv6 n (linkVals rd) := fun w' γ' ho' hk' => (a4.keep hk').reads ho' hone
  have hrel := a5.put (fnDel_self s.f d t) (j : Int) (cq : Int)
  have hfin : ∀ w' γ' A' cap', Own w0 w' γ' → SliceAt γ' (r + 5) 126 4 (.slice A' (n + 1) cap') (n + 1) (linkVals rd ++ [.int .i64 d, .int .i64 t, .int .i64 j, .int .i64 cq]) → (∀ k, k ≠ r + 5 → k ≠ r + 8 → γ' k = γ5 k) →
      (∃ u, w'.cell? ⟨gr, 4, none⟩ = some u) ∧ w'.frozen? ⟨gr, 4, none⟩ = false ∧ rdPost w0 γ r gr (some ⟨pb, off, none⟩) cap (q + 1) (0, (cq : Int), 0, { s with f := fnPut (fnDel s.f d t) d t j cq }) (.returned (.tuple #[.int .i64 0, .int .i64 cq, .int .i64 0])) (w'.setCell ⟨gr, 4, none⟩ (.slice A' (n + 1) cap')) := by
    intro w' γ' A' cap' ho' hs' hk'
    have g0 : γ' r = _ := (hk' r (by omega) (by omega)).trans a0
    have hset := ho'.set g0 4 (.slice A' (n + 1) cap')
    have hR := H5.out.reads (q' := q + 1) (rv' := .slice A' (n + 1) cap') (f := fnPut (fnDel s.f d t) d t j cq) (rd' := rd ++ [(⟨d, t, j, cq⟩ : LinkS)]) (hset.mv (a := r + 4) (b := r + 5) (by omega)) (by
      intro a b c' d' rv' e
      rw [mv_other _ (by omega) (by omega), put_same]
      rw [a0] at e
      cases e
      rfl) (by
      have e : (rd ++ [(⟨d, t, j, cq⟩ : LinkS)]).length = n + 1 := by rw [List.length_append, hn]; rfl
      rw [e, linkVals_append]
      exact hs'.keep' (by rw [mv_at, put_other _ _ _ (by omega)])) hrel (by rw [List.length_append, ← hn]; show n + 1 ≤ q + 1; omega) (by
      intro k hk
      rw [mv_other _ (by omega) (by omega), put_other _ _ _ (by omega)]
      exact hk' k (by omega) (by omega))
    refine ⟨⟨_, ho'.cell g0 (i := 4) rfl⟩, ho'.free g0 4, rfl, _, hR, ?_⟩
    intro k hk
    rw [mv_other _ (by omega) (by omega), put_other _ _ _ (by omega), hk' k (by omega) (by omega)]
    exact (HK5.out k (by omega) (by omega) (by omega)).trans (HR.out k hk)
  have c4' := ho6.cell a0 (i := 4) (v := rv6) rfl
  have e4' := ho6.cell g6 (i := 4) (v := .int .i64 j) rfl
  have HF := Lib.hid hfin
  have HRD := Lib.hid hrd
  have HO := Lib.hid ho6
  have GR := Lib.hid a0
  have G6 := Lib.hid g6
  have hn9 : n ≤ 1000 := by omega
  obtain ⟨G, hG⟩ : ∃ x, x = γ5 := ⟨_, rfl⟩
  rw [← hG] at HF HRD HO GR G6
  obtain ⟨A4, cap4, rfl, _⟩ := a4.form
  clear hfin hrd ho6 a0 a1 a2 a3 a4 a5 a6 a7 hone hrel hin g6 hst H5 HK5 HC HP k6 k7 H3 e3 e5 e6 l0 l1 l2 c0 c1' c2' c3' uc up un hG e4 c4' hn
  have c4' := HO.out.cell GR.out (i := 4) rfl
  go_wp2_with fail
  refine Plan.region [0, 2, 3, 4, 5, 7, 8, 9, 10, 11, 12] (.fork 1 (.fork 6 (.step 13 (.step 14 (.step 15 (.step 16 (.step 17 .done))))) 13 (.step 6 (.step 14 (.step 15 (.step 16 (.step 17 .done)))))) 13 (.step 1 (.step 6 (.step 14 (.step 15 (.step 16 (.step 17 .done))))))) (fun w' => w'.cell? ⟨gr, 4, none⟩ = some (.slice A4 n cap4) ∧ w'.cell? ⟨gx, 4, none⟩ = some (.int .i64 j)) (by kernel_rfl) (by kernel_rfl) (fun _ _ _ _ _ h => h) (by refine ⟨?_, ?_⟩ <;> simpa using by assumption) ?_
  repeat
    refine Perm.light_step rfl ?_ (fun w' hS => ?_) ?_
    rotate_left
    · (obtain ⟨s0, s1⟩ := hS; go_simp; try with_reducible rfl)
    simp only [Act.put, List.getElem_toArray, List.getElem_cons_zero, List.getElem_cons_succ, List.setIfInBounds_toArray, List.set_cons_zero, List.set_cons_succ]
  refine Perm.light_nil ?_
  have ho0 := HO.out.drew
  have hk0 : ∀ k, k ≠ r + 5 → k ≠ r + 8 → G k = G k := fun _ _ _ => rfl
  generalize w6.drew = wa0 at *
  obtain ⟨ga0, hga⟩ : ∃ x, x = G := ⟨_, rfl⟩
  rw [show Own w0 wa0 G = Own w0 wa0 ga0 by rw [hga]] at ho0
  have hk0 : ∀ k, k ≠ r + 5 → k ≠ r + 8 → ga0 k = G k := fun _ _ _ => by rw [hga]
  clear hga
  refine Plan.p_fork ?_ ?_
  · have ho1 := ho0.new (r + 5) (.cells #[] 126)
    have hs1 : SliceAt (put ga0 (r + 5) wa0.heap.size (.cells #[] 126)) (r + 5) 126 4 (.slice (some ⟨wa0.heap.size, 0, none⟩) 0 0) 0 [] := ⟨rfl, .inr ⟨_, 0, _, rfl, put_same _ _ _ _, Nat.le_refl _, by omega, rfl, rfl⟩⟩
    have hk1 : ∀ k, k ≠ r + 5 → k ≠ r + 8 → put ga0 (r + 5) wa0.heap.size (.cells #[] 126) k = G k := fun k h1 h2 => (put_other _ _ _ h1).trans (hk0 k h1 h2)
    refine Plan.at_run rfl (.value (.slice (some ⟨wa0.heap.size, 0, none⟩) 0 0)) _ (.inl rfl) (w' := wa0.alloc (.cells #[] 126)) (by simp [execOp, run_empty121, Result.andThen]) (fun _ _ => ⟨ho1.cell ((hk1 r (by omega) (by omega)).trans GR.out) (i := 4) rfl, ho1.cell ((hk1 (r + 6) (by omega) (by omega)).trans G6.out) (i := 4) rfl⟩) ?_
    simp only [Act.put, List.getElem_toArray, List.getElem_cons_zero, List.getElem_cons_succ, List.setIfInBounds_toArray, List.set_cons_zero, List.set_cons_succ]
    obtain ⟨wa1, hwa1⟩ : ∃ x, x = wa0.alloc (.cells #[] 126) := ⟨_, rfl⟩
    obtain ⟨ga1, hg1⟩ : ∃ x, x = put ga0 (r + 5) wa0.heap.size (.cells #[] 126) := ⟨_, rfl⟩
    obtain ⟨gA, hgA⟩ : ∃ x, x = wa0.heap.size := ⟨_, rfl⟩
    rw [← hwa1] at ho1 ⊢
    rw [← hg1] at ho1 hs1 hk1 
    rw [← hgA] at hs1 ⊢
    clear hwa1 hg1 hgA
    refine Plan.p_fork ?_ ?_
    · refine Plan.at_law rfl fun K hK => ?_
      refine wp_append_V _ _ _ rfl 126 _ 4 32 Try.underlying121 Try.info126 rfl (by decide) ho1 hs1 rfl (HRD.out wa1 ga1 ho1 (hk1 _ (by omega) (by omega))) rfl (by unfold maxLen; omega) (by omega) fun A2 cap2 wa2 ga2 hA2 ho2 hs2 hkk2 => hK _ _ (fun _ _ => ?_) ?_
      · exact ⟨ho2.cell ((hkk2 r (by omega)).trans ((hk1 r (by omega) (by omega)).trans GR.out)) (i := 4) rfl, ho2.cell ((hkk2 (r + 6) (by omega)).trans ((hk1 (r + 6) (by omega) (by omega)).trans G6.out)) (i := 4) rfl⟩
      clear hK
      simp only [Act.put, List.getElem_toArray, List.getElem_cons_zero, List.getElem_cons_succ, List.setIfInBounds_toArray, List.set_cons_zero, List.set_cons_succ]
      have hk2 : ∀ k, k ≠ r + 5 → k ≠ r + 8 → ga2 k = G k := fun k h1 h2 => (hkk2 k h1).trans (hk1 k h1 h2)
      simp only [Nat.zero_add, List.nil_append] at hs2 ⊢
      refine Plan.p_step rfl (by rfl) ?_
      have ho3 := ho2.new (r + 8) (.cells #[.int .i64 d, .int .i64 t, .int .i64 j, .int .i64 cq] 126)
      have k83 := put_same ga2 (r + 8) wa2.heap.size (.cells #[.int .i64 d, .int .i64 t, .int .i64 j, .int .i64 cq] 126)
      have hk3 : ∀ k, k ≠ r + 5 → k ≠ r + 8 → put ga2 (r + 8) wa2.heap.size (.cells #[.int .i64 d, .int .i64 t, .int .i64 j, .int .i64 cq] 126) k = G k := fun k h1 h2 => (put_other _ _ _ h2).trans (hk2 k h1 h2)
      have hs3 := hs2.keep (γ' := put ga2 (r + 8) wa2.heap.size (.cells #[.int .i64 d, .int .i64 t, .int .i64 j, .int .i64 cq] 126)) (put_other _ _ _ (by omega))
      refine Plan.at_run rfl (.value (.slice (some ⟨wa2.heap.size, 0, none⟩) 1 1)) _ (.inl rfl) (w' := wa2.alloc (.cells #[.int .i64 d, .int .i64 t, .int .i64 j, .int .i64 cq] 126)) (by go_simp; try with_reducible rfl) (fun _ _ => ⟨ho3.cell ((hk3 r (by omega) (by omega)).trans GR.out) (i := 4) rfl, ho3.cell ((hk3 (r + 6) (by omega) (by omega)).trans G6.out) (i := 4) rfl⟩) ?_
      simp only [Act.put, List.getElem_toArray, List.getElem_cons_zero, List.getElem_cons_succ, List.setIfInBounds_toArray, List.set_cons_zero, List.set_cons_succ]
      obtain ⟨wa3, hwa3⟩ : ∃ x, x = wa2.alloc (.cells #[.int .i64 d, .int .i64 t, .int .i64 j, .int .i64 cq] 126) := ⟨_, rfl⟩
      obtain ⟨ga3, hg3⟩ : ∃ x, x = put ga2 (r + 8) wa2.heap.size (.cells #[.int .i64 d, .int .i64 t, .int .i64 j, .int .i64 cq] 126) := ⟨_, rfl⟩
      obtain ⟨gC, hgC⟩ : ∃ x, x = wa2.heap.size := ⟨_, rfl⟩
      rw [← hwa3] at ho3 ⊢
      rw [← hg3] at ho3 k83 hk3 hs3
      rw [← hgC] at k83 ⊢
      clear hwa3 hg3 hgC
      refine Plan.p_step rfl (by rfl) ?_
      refine Plan.at_law rfl fun K hK => ?_
      refine wp_append_V _ _ _ rfl 126 _ 4 32 Try.underlying121 Try.info126 rfl (by decide) ho3 hs3 rfl (m := 1) (news := [.int .i64 d, .int .i64 t, .int .i64 j, .int .i64 cq]) (.inr ⟨⟨gC, 0, none⟩, 1, rfl, rfl, fun jj u hj => ?_, fun u hu => ?_⟩) rfl (by unfold maxLen; omega) (by omega) fun A4 cap4 wa4 ga4 hA4 ho4 hs4 hkk4 => hK _ _ (fun _ _ => ?_) ?_
      · rw [add_plain, Nat.zero_add]
        exact ho3.cell k83 (i := jj) (by simpa using hj)
      · simp at hu
        rcases hu with rfl | rfl | rfl | rfl <;> rfl
      · exact ⟨ho4.cell ((hkk4 r (by omega)).trans ((hk3 r (by omega) (by omega)).trans GR.out)) (i := 4) rfl, ho4.cell ((hkk4 (r + 6) (by omega)).trans ((hk3 (r + 6) (by omega) (by omega)).trans G6.out)) (i := 4) rfl⟩
      clear hK
      simp only [Act.put, List.getElem_toArray, List.getElem_cons_zero, List.getElem_cons_succ, List.setIfInBounds_toArray, List.set_cons_zero, List.set_cons_succ]
      obtain ⟨⟨u, hu⟩, hfr, hF⟩ := HF.out wa4 ga4 A4 cap4 ho4 hs4 fun k h1 h2 => (hkk4 k h1).trans (hk3 k h1 h2)
      have HF3 := Lib.hid hF
      clear hF ho4 hs4 hkk4 hA4
      repeat
        refine Plan.p_pure rfl (by rfl) ?_ (fun w' => ?_) ?_
        rotate_left
        · (go_simp; try with_reducible rfl)
        simp only [Act.put, List.getElem_toArray, List.getElem_cons_zero, List.getElem_cons_succ, List.setIfInBounds_toArray, List.set_cons_zero, List.set_cons_succ]
      refine Plan.p_step rfl (by rfl) ?_
      refine Plan.at_run rfl .skip undef (.inr ⟨rfl, rfl⟩) (w' := wa4.setCell ⟨gr, 4, none⟩ (.slice A4 (n + 1) cap4)) (by go_simp; try with_reducible rfl) (Perm.no_need (by kernel_rfl)) ?_
      simp only [Act.put, List.getElem_toArray, List.getElem_cons_zero, List.getElem_cons_succ, List.setIfInBounds_toArray, List.set_cons_zero, List.set_cons_succ]
      refine Plan.p_done ?_
      go_wp2_with fail
      refine bodyPost_ret (results_tmp3 rfl _ _ _) rfl ?_
      exact HF3.out

    · have ho2 := ho1.new (r + 8) (.cells #[.int .i64 d, .int .i64 t, .int .i64 j, .int .i64 cq] 126)
      have k82 := put_same ga1 (r + 8) wa1.heap.size (.cells #[.int .i64 d, .int .i64 t, .int .i64 j, .int .i64 cq] 126)
      have hk2 : ∀ k, k ≠ r + 5 → k ≠ r + 8 → put ga1 (r + 8) wa1.heap.size (.cells #[.int .i64 d, .int .i64 t, .int .i64 j, .int .i64 cq] 126) k = G k := fun k h1 h2 => (put_other _ _ _ h2).trans (hk1 k h1 h2)
      have hs2 := hs1.keep (γ' := put ga1 (r + 8) wa1.heap.size (.cells #[.int .i64 d, .int .i64 t, .int .i64 j, .int .i64 cq] 126)) (put_other _ _ _ (by omega))
      refine Plan.at_run rfl (.value (.slice (some ⟨wa1.heap.size, 0, none⟩) 1 1)) _ (.inl rfl) (w' := wa1.alloc (.cells #[.int .i64 d, .int .i64 t, .int .i64 j, .int .i64 cq] 126)) (by go_simp; try with_reducible rfl) (fun _ _ => ⟨ho2.cell ((hk2 r (by omega) (by omega)).trans GR.out) (i := 4) rfl, ho2.cell ((hk2 (r + 6) (by omega) (by omega)).trans G6.out) (i := 4) rfl⟩) ?_
      simp only [Act.put, List.getElem_toArray, List.getElem_cons_zero, List.getElem_cons_succ, List.setIfInBounds_toArray, List.set_cons_zero, List.set_cons_succ]
      obtain ⟨wa2, hwa2⟩ : ∃ x, x = wa1.alloc (.cells #[.int .i64 d, .int .i64 t, .int .i64 j, .int .i64 cq] 126) := ⟨_, rfl⟩
      obtain ⟨ga2, hg2⟩ : ∃ x, x = put ga1 (r + 8) wa1.heap.size (.cells #[.int .i64 d, .int .i64 t, .int .i64 j, .int .i64 cq] 126) := ⟨_, rfl⟩
      obtain ⟨gC, hgC⟩ : ∃ x, x = wa1.heap.size := ⟨_, rfl⟩
      rw [← hwa2] at ho2 ⊢
      rw [← hg2] at ho2 k82 hk2 hs2
      rw [← hgC] at k82 ⊢
      clear hwa2 hg2 hgC
      refine Plan.p_step rfl (by rfl) ?_
      refine Plan.at_law rfl fun K hK => ?_
      refine wp_append_V _ _ _ rfl 126 _ 4 32 Try.underlying121 Try.info126 rfl (by decide) ho2 hs2 rfl (HRD.out wa2 ga2 ho2 (hk2 _ (by omega) (by omega))) rfl (by unfold maxLen; omega) (by omega) fun A3 cap3 wa3 ga3 hA3 ho3 hs3 hkk3 => hK _ _ (fun _ _ => ?_) ?_
      · exact ⟨ho3.cell ((hkk3 r (by omega)).trans ((hk2 r (by omega) (by omega)).trans GR.out)) (i := 4) rfl, ho3.cell ((hkk3 (r + 6) (by omega)).trans ((hk2 (r + 6) (by omega) (by omega)).trans G6.out)) (i := 4) rfl⟩
      clear hK
      simp only [Act.put, List.getElem_toArray, List.getElem_cons_zero, List.getElem_cons_succ, List.setIfInBounds_toArray, List.set_cons_zero, List.set_cons_succ]
      have hk3 : ∀ k, k ≠ r + 5 → k ≠ r + 8 → ga3 k = G k := fun k h1 h2 => (hkk3 k h1).trans (hk2 k h1 h2)
      have k83 := (hkk3 (r + 8) (by omega)).trans k82
      simp only [Nat.zero_add, List.nil_append] at hs3 ⊢
      refine Plan.p_step rfl (by rfl) ?_
      refine Plan.at_law rfl fun K hK => ?_
      refine wp_append_V _ _ _ rfl 126 _ 4 32 Try.underlying121 Try.info126 rfl (by decide) ho3 hs3 rfl (m := 1) (news := [.int .i64 d, .int .i64 t, .int .i64 j, .int .i64 cq]) (.inr ⟨⟨gC, 0, none⟩, 1, rfl, rfl, fun jj u hj => ?_, fun u hu => ?_⟩) rfl (by unfold maxLen; omega) (by omega) fun A4 cap4 wa4 ga4 hA4 ho4 hs4 hkk4 => hK _ _ (fun _ _ => ?_) ?_
      · rw [add_plain, Nat.zero_add]
        exact ho3.cell k83 (i := jj) (by simpa using hj)
      · simp at hu
        rcases hu with rfl | rfl | rfl | rfl <;> rfl
      · exact ⟨ho4.cell ((hkk4 r (by omega)).trans ((hk3 r (by omega) (by omega)).trans GR.out)) (i := 4) rfl, ho4.cell ((hkk4 (r + 6) (by omega)).trans ((hk3 (r + 6) (by omega) (by omega)).trans G6.out)) (i := 4) rfl⟩
      clear hK
      simp only [Act.put, List.getElem_toArray, List.getElem_cons_zero, List.getElem_cons_succ, List.setIfInBounds_toArray, List.set_cons_zero, List.set_cons_succ]
      obtain ⟨⟨u, hu⟩, hfr, hF⟩ := HF.out wa4 ga4 A4 cap4 ho4 hs4 fun k h1 h2 => (hkk4 k h1).trans (hk3 k h1 h2)
      have HF3 := Lib.hid hF
      clear hF ho4 hs4 hkk4 hA4
      repeat
        refine Plan.p_pure rfl (by rfl) ?_ (fun w' => ?_) ?_
        rotate_left
        · (go_simp; try with_reducible rfl)
        simp only [Act.put, List.getElem_toArray, List.getElem_cons_zero, List.getElem_cons_succ, List.setIfInBounds_toArray, List.set_cons_zero, List.set_cons_succ]
      refine Plan.p_step rfl (by rfl) ?_
      refine Plan.at_run rfl .skip undef (.inr ⟨rfl, rfl⟩) (w' := wa4.setCell ⟨gr, 4, none⟩ (.slice A4 (n + 1) cap4)) (by go_simp; try with_reducible rfl) (Perm.no_need (by kernel_rfl)) ?_
      simp only [Act.put, List.getElem_toArray, List.getElem_cons_zero, List.getElem_cons_succ, List.setIfInBounds_toArray, List.set_cons_zero, List.set_cons_succ]
      refine Plan.p_done ?_
      go_wp2_with fail
      refine bodyPost_ret (results_tmp3 rfl _ _ _) rfl ?_
      exact HF3.out


  · have ho1 := ho0.new (r + 8) (.cells #[.int .i64 d, .int .i64 t, .int .i64 j, .int .i64 cq] 126)
    have k81 := put_same ga0 (r + 8) wa0.heap.size (.cells #[.int .i64 d, .int .i64 t, .int .i64 j, .int .i64 cq] 126)
    have hk1 : ∀ k, k ≠ r + 5 → k ≠ r + 8 → put ga0 (r + 8) wa0.heap.size (.cells #[.int .i64 d, .int .i64 t, .int .i64 j, .int .i64 cq] 126) k = G k := fun k h1 h2 => (put_other _ _ _ h2).trans (hk0 k h1 h2)
    refine Plan.at_run rfl (.value (.slice (some ⟨wa0.heap.size, 0, none⟩) 1 1)) _ (.inl rfl) (w' := wa0.alloc (.cells #[.int .i64 d, .int .i64 t, .int .i64 j, .int .i64 cq] 126)) (by go_simp; try with_reducible rfl) (fun _ _ => ⟨ho1.cell ((hk1 r (by omega) (by omega)).trans GR.out) (i := 4) rfl, ho1.cell ((hk1 (r + 6) (by omega) (by omega)).trans G6.out) (i := 4) rfl⟩) ?_
    simp only [Act.put, List.getElem_toArray, List.getElem_cons_zero, List.getElem_cons_succ, List.setIfInBounds_toArray, List.set_cons_zero, List.set_cons_succ]
    obtain ⟨wa1, hwa1⟩ : ∃ x, x = wa0.alloc (.cells #[.int .i64 d, .int .i64 t, .int .i64 j, .int .i64 cq] 126) := ⟨_, rfl⟩
    obtain ⟨ga1, hg1⟩ : ∃ x, x = put ga0 (r + 8) wa0.heap.size (.cells #[.int .i64 d, .int .i64 t, .int .i64 j, .int .i64 cq] 126) := ⟨_, rfl⟩
    obtain ⟨gC, hgC⟩ : ∃ x, x = wa0.heap.size := ⟨_, rfl⟩
    rw [← hwa1] at ho1 ⊢
    rw [← hg1] at ho1 k81 hk1 
    rw [← hgC] at k81 ⊢
    clear hwa1 hg1 hgC
    refine Plan.p_step rfl (by rfl) ?_
    have ho2 := ho1.new (r + 5) (.cells #[] 126)
    have hs2 : SliceAt (put ga1 (r + 5) wa1.heap.size (.cells #[] 126)) (r + 5) 126 4 (.slice (some ⟨wa1.heap.size, 0, none⟩) 0 0) 0 [] := ⟨rfl, .inr ⟨_, 0, _, rfl, put_same _ _ _ _, Nat.le_refl _, by omega, rfl, rfl⟩⟩
    have hk2 : ∀ k, k ≠ r + 5 → k ≠ r + 8 → put ga1 (r + 5) wa1.heap.size (.cells #[] 126) k = G k := fun k h1 h2 => (put_other _ _ _ h1).trans (hk1 k h1 h2)
    have k82 : put ga1 (r + 5) wa1.heap.size (.cells #[] 126) (r + 8) = _ := (put_other _ _ _ (by omega)).trans k81
    refine Plan.at_run rfl (.value (.slice (some ⟨wa1.heap.size, 0, none⟩) 0 0)) _ (.inl rfl) (w' := wa1.alloc (.cells #[] 126)) (by simp [execOp, run_empty121, Result.andThen]) (fun _ _ => ⟨ho2.cell ((hk2 r (by omega) (by omega)).trans GR.out) (i := 4) rfl, ho2.cell ((hk2 (r + 6) (by omega) (by omega)).trans G6.out) (i := 4) rfl⟩) ?_
    simp only [Act.put, List.getElem_toArray, List.getElem_cons_zero, List.getElem_cons_succ, List.setIfInBounds_toArray, List.set_cons_zero, List.set_cons_succ]
    obtain ⟨wa2, hwa2⟩ : ∃ x, x = wa1.alloc (.cells #[] 126) := ⟨_, rfl⟩
    obtain ⟨ga2, hg2⟩ : ∃ x, x = put ga1 (r + 5) wa1.heap.size (.cells #[] 126) := ⟨_, rfl⟩
    obtain ⟨gA, hgA⟩ : ∃ x, x = wa1.heap.size := ⟨_, rfl⟩
    rw [← hwa2] at ho2 ⊢
    rw [← hg2] at ho2 hs2 hk2 k82
    rw [← hgA] at hs2 ⊢
    clear hwa2 hg2 hgA
    refine Plan.p_step rfl (by rfl) ?_
    refine Plan.at_law rfl fun K hK => ?_
    refine wp_append_V _ _ _ rfl 126 _ 4 32 Try.underlying121 Try.info126 rfl (by decide) ho2 hs2 rfl (HRD.out wa2 ga2 ho2 (hk2 _ (by omega) (by omega))) rfl (by unfold maxLen; omega) (by omega) fun A3 cap3 wa3 ga3 hA3 ho3 hs3 hkk3 => hK _ _ (fun _ _ => ?_) ?_
    · exact ⟨ho3.cell ((hkk3 r (by omega)).trans ((hk2 r (by omega) (by omega)).trans GR.out)) (i := 4) rfl, ho3.cell ((hkk3 (r + 6) (by omega)).trans ((hk2 (r + 6) (by omega) (by omega)).trans G6.out)) (i := 4) rfl⟩
    clear hK
    simp only [Act.put, List.getElem_toArray, List.getElem_cons_zero, List.getElem_cons_succ, List.setIfInBounds_toArray, List.set_cons_zero, List.set_cons_succ]
    have hk3 : ∀ k, k ≠ r + 5 → k ≠ r + 8 → ga3 k = G k := fun k h1 h2 => (hkk3 k h1).trans (hk2 k h1 h2)
    have k83 := (hkk3 (r + 8) (by omega)).trans k82
    simp only [Nat.zero_add, List.nil_append] at hs3 ⊢
    refine Plan.p_step rfl (by rfl) ?_
    refine Plan.at_law rfl fun K hK => ?_
    refine wp_append_V _ _ _ rfl 126 _ 4 32 Try.underlying121 Try.info126 rfl (by decide) ho3 hs3 rfl (m := 1) (news := [.int .i64 d, .int .i64 t, .int .i64 j, .int .i64 cq]) (.inr ⟨⟨gC, 0, none⟩, 1, rfl, rfl, fun jj u hj => ?_, fun u hu => ?_⟩) rfl (by unfold maxLen; omega) (by omega) fun A4 cap4 wa4 ga4 hA4 ho4 hs4 hkk4 => hK _ _ (fun _ _ => ?_) ?_
    · rw [add_plain, Nat.zero_add]
      exact ho3.cell k83 (i := jj) (by simpa using hj)
    · simp at hu
      rcases hu with rfl | rfl | rfl | rfl <;> rfl
    · exact ⟨ho4.cell ((hkk4 r (by omega)).trans ((hk3 r (by omega) (by omega)).trans GR.out)) (i := 4) rfl, ho4.cell ((hkk4 (r + 6) (by omega)).trans ((hk3 (r + 6) (by omega) (by omega)).trans G6.out)) (i := 4) rfl⟩
    clear hK
    simp only [Act.put, List.getElem_toArray, List.getElem_cons_zero, List.getElem_cons_succ, List.setIfInBounds_toArray, List.set_cons_zero, List.set_cons_succ]
    obtain ⟨⟨u, hu⟩, hfr, hF⟩ := HF.out wa4 ga4 A4 cap4 ho4 hs4 fun k h1 h2 => (hkk4 k h1).trans (hk3 k h1 h2)
    have HF3 := Lib.hid hF
    clear hF ho4 hs4 hkk4 hA4
    repeat
      refine Plan.p_pure rfl (by rfl) ?_ (fun w' => ?_) ?_
      rotate_left
      · (go_simp; try with_reducible rfl)
      simp only [Act.put, List.getElem_toArray, List.getElem_cons_zero, List.getElem_cons_succ, List.setIfInBounds_toArray, List.set_cons_zero, List.set_cons_succ]
    refine Plan.p_step rfl (by rfl) ?_
    refine Plan.at_run rfl .skip undef (.inr ⟨rfl, rfl⟩) (w' := wa4.setCell ⟨gr, 4, none⟩ (.slice A4 (n + 1) cap4)) (by go_simp; try with_reducible rfl) (Perm.no_need (by kernel_rfl)) ?_
    simp only [Act.put, List.getElem_toArray, List.getElem_cons_zero, List.getElem_cons_succ, List.setIfInBounds_toArray, List.set_cons_zero, List.set_cons_succ]
    refine Plan.p_done ?_
    go_wp2_with fail
    refine bodyPost_ret (results_tmp3 rfl _ _ _) rfl ?_
    exact HF3.out


set_option maxRecDepth 100000 in
set_option maxHeartbeats 8000000 in
theorem rdo_none31 (h : RefL w0 γ r gr A cap q s w) (hq : q < 999) (d t k dm pk b' v : Int) {j : Nat} {fr size : Int} {c : CS} (hl : s.ls[j]? = some ⟨1, fr, d, size⟩) (he : s.en j = .cell c) (hf : s.f d t = none) :
    Calls Try.prog 47 #[.pointer (some ⟨gr, 0, none⟩), .int .i64 d, .int .i64 t, .agg #[.int .i64 k, .int .i64 dm, .int .i64 pk, .int .i64 31, .int .i64 j, .int .i64 b', .int .i64 v]] w (rdPost w0 γ r gr A cap (q + 1) (11, 0, 0, s)) := by
  have hj : j < s.ls.length := (List.getElem?_eq_some_iff.1 hl).1
  have h10 : s.ls.length ≤ 10 := h.2.1.1
  have h1 := h.box (r + 6) (by omega) (entO k dm pk 31 j b' v)
  have hk6 := put_same γ (r + 6) w.heap.size (entO k dm pk 31 j b' v)
  have hrest : ∀ t, (t < r ∨ r + 50 ≤ t) → put γ (r + 6) w.heap.size (entO k dm pk 31 j b' v) t = γ t := fun t ht => put_other _ _ _ (by omega)
  unfold entO at h1 hk6 hrest
  generalize put γ (r + 6) _ _ = γ1 at *
  have H1 := Lib.hid h1
  have HK := Lib.hid hrest
  have HL := Lib.hid hl
  have c0 := h1.len
  have e4 := h1.own.cell hk6 (i := 4) (v := .int .i64 j) rfl
  have d1 : decide ((j : Int) < 0) = false := by simp
  have d2 : decide ((s.ls.length : Int) ≤ j) = false := by simp; omega
  clear h h1 hrest hl
  go_enter Try.func47, Try.ntmps47
  go_wp2_with fail
  generalize hW : w.alloc _ = W at *
  generalize w.heap.size = gx at *
  clear hW
  go_quiet (fail)
  clear c0 e4
  have h2 := H1.out.drewN nq
  generalize W.drewN nq = W2 at *
  obtain ⟨vc, vp, nx, pb, off, g1, c1, g2, c2, g3, c3, rv, ⟨rfl, c0, c1', c2', c3', c4', q0, q1, q2, q3, uc, up, un⟩, hend⟩ := h2.at_ HL.out
  dsimp only at q0 q1 q2 q3
  have e4 := h2.own.cell hk6 (i := 4) (v := .int .i64 j) rfl
  have hjn : (j : Int) < s.ls.length := by omega
  have H2 := Lib.hid h2
  clear h2 d1 d2
  go_wp2_with fail
  refine Perm.wp_region_pre [0, 1, 2, 3, 4, 5, 6, 7] [8, 9] (fun w' => w'.cell? ⟨gr, 0, none⟩ = some (.slice (some ⟨pb, off, none⟩) s.ls.length cap) ∧ w'.cell? ⟨gx, 4, none⟩ = some (.int .i64 j) ∧ w'.cell? ⟨pb, off + j * 4, none⟩ = some (.int .i64 1) ∧ w'.cell? ⟨pb, off + j * 4 + 1, none⟩ = some (.int .i64 fr) ∧ w'.cell? ⟨pb, off + j * 4 + 2, none⟩ = some (.int .i64 d) ∧ w'.cell? ⟨pb, off + j * 4 + 3, none⟩ = some (.int .i64 size)) (by kernel_rfl) (by kernel_rfl) (fun _ _ _ _ _ h => h) (by refine ⟨?_, ?_, ?_, ?_, ?_, ?_⟩ <;> simpa using by assumption) ?_
  repeat
    refine Perm.light_step rfl ?_ (fun w' hS => ?_) ?_
    rotate_left
    · (obtain ⟨s0, s1, s2, s3, s4, s5⟩ := hS; go_simp; try with_reducible rfl)
    simp only [Act.put, List.getElem_toArray, List.getElem_cons_zero, List.getElem_cons_succ, List.setIfInBounds_toArray, List.set_cons_zero, List.set_cons_succ]
  refine Perm.light_nil ?_
  have h3 := H2.out.drew.box (r + 7) (by omega) (.cells #[.int .i64 1, .int .i64 fr, .int .i64 d, .int .i64 size] 78)
  have k7 := put_same γ1 (r + 7) W2.drew.heap.size (.cells #[.int .i64 1, .int .i64 fr, .int .i64 d, .int .i64 size] 78)
  have k6 : put γ1 (r + 7) W2.drew.heap.size (.cells #[.int .i64 1, .int .i64 fr, .int .i64 d, .int .i64 size] 78) (r + 6) = _ := (put_other _ _ _ (by omega)).trans hk6
  have krest : ∀ t, t ≠ r + 7 → put γ1 (r + 7) W2.drew.heap.size (.cells #[.int .i64 1, .int .i64 fr, .int .i64 d, .int .i64 size] 78) t = γ1 t := fun t ht => put_other _ _ _ ht
  refine Perm.tail_run rfl (by rfl) (.value (.pointer (some ⟨W2.drew.heap.size, 0, none⟩))) _ (.inl rfl) (w' := W2.drew.alloc (.cells #[.int .i64 0, .int .i64 0, .int .i64 0, .int .i64 0] 78)) (by go_simp; try with_reducible rfl) (fun _ hS => ⟨cell_on hS.1 _, cell_on hS.2.1 _, cell_on hS.2.2.1 _, cell_on hS.2.2.2.1 _, cell_on hS.2.2.2.2.1 _, cell_on hS.2.2.2.2.2 _⟩) ?_
  simp only [Act.put, List.getElem_toArray, List.getElem_cons_zero, List.getElem_cons_succ, List.setIfInBounds_toArray, List.set_cons_zero, List.set_cons_succ]
  refine Perm.tail_run rfl (by rfl) .skip undef (.inr ⟨rfl, rfl⟩) (w' := W2.drew.alloc (.cells #[.int .i64 1, .int .i64 fr, .int .i64 d, .int .i64 size] 78)) (by go_simp; try with_reducible rfl) (Perm.no_need (by kernel_rfl)) ?_
  simp only [Act.put, List.getElem_toArray, List.getElem_cons_zero, List.getElem_cons_succ, List.setIfInBounds_toArray, List.set_cons_zero, List.set_cons_succ]
  refine Perm.tail_nil ?_
  generalize put γ1 (r + 7) _ _ = γ3 at *
  generalize W2.drew.alloc _ = W3 at *
  generalize W2.drew.heap.size = gy at *
  clear c0 c1' c2' c3' c4' q0 q1 q2 q3 uc up un e4 hend hk6
  obtain ⟨vc, vp, nx, pb', off', g1, c1, g2, c2, g3, c3, rv, ⟨hA', c0, c1', c2', c3', c4', q0, q1, q2, q3, uc, up, un⟩, hend⟩ := h3.at_ HL.out
  cases hA'
  clear q0 q1 q2 q3
  have e3 := h3.own.cell k6 (i := 3) (v := .int .i64 31) rfl
  have e4 := h3.own.cell k6 (i := 4) (v := .int .i64 j) rfl
  have e5 := h3.own.cell k6 (i := 5) (v := .int .i64 b') rfl
  have e6 := h3.own.cell k6 (i := 6) (v := .int .i64 v) rfl
  have l0 := h3.own.cell k7 (i := 0) (v := .int .i64 1) rfl
  have l1 := h3.own.cell k7 (i := 1) (v := .int .i64 fr) rfl
  have l2 := h3.own.cell k7 (i := 2) (v := .int .i64 d) rfl
  have H3 := Lib.hid h3
  have HR : Hid (∀ t, (t < r ∨ r + 50 ≤ t) → γ3 t = γ t) := Lib.hid fun t ht => (krest t (by omega)).trans (HK.out t ht)
  clear h3 H1 H2 HK krest
  obtain ⟨gc, gp, c', z, all, rfl, rfl, hC, hok, hP, z1, z8, zl, hmt⟩ := hend
  rw [he] at hmt
  have hcc := hmt.2.symm
  subst hcc
  clear hmt
  have HC := Lib.hid hC
  have HP := Lib.hid hP
  clear hC hP
  go_wp2_with fail
  go_quiet (fail)
  go_wp2_with fail
  obtain ⟨_, hin, cv, pv, nv, rv7, vc7, vp7, nx7, rd, a0, a1, a2, a3, a4, a5, a6, a7⟩ := H3.out.drewN nq
  have hat := refAt_all (H3.out.own.drewN nq) a0 a4 (by omega) d t
  have hi : atI rd d t = -1 := by
    rcases atI_cases rd d t with ⟨hi, _⟩ | ⟨i, x, _, hx, hm⟩
    · exact hi
    · rw [a5.at_ hx hm] at hf; cases hf
  rw [hi] at hat
  clear hin a1 a2 a3 a4 a5 a6 a7 hi
  go_wp2_with fail
  refine hat.mono ?_
  rintro e w5 ⟨rfl, rfl⟩
  go_wp2_with fail
  go_quiet (fail)
  go_wp2_with fail
  refine bodyPost_ret (results_tmp3 rfl _ _ _) rfl ?_
  exact ⟨rfl, _, ((H3.out.drewN _).drewN _).more (Nat.le_succ q), HR.out⟩

set_option maxRecDepth 100000 in
set_option maxHeartbeats 8000000 in
theorem rdo_none32 (h : RefL w0 γ r gr A cap q s w) (hq : q < 999) (d t k dm pk b' v : Int) {j : Nat} {fr size : Int} {c : CS} (hl : s.ls[j]? = some ⟨1, fr, d, size⟩) (he : s.en j = .cell c) (hf : s.f d t = none) :
    Calls Try.prog 47 #[.pointer (some ⟨gr, 0, none⟩), .int .i64 d, .int .i64 t, .agg #[.int .i64 k, .int .i64 dm, .int .i64 pk, .int .i64 32, .int .i64 j, .int .i64 b', .int .i64 v]] w (rdPost w0 γ r gr A cap (q + 1) (11, 0, 0, s)) := by
  have hj : j < s.ls.length := (List.getElem?_eq_some_iff.1 hl).1
  have h10 : s.ls.length ≤ 10 := h.2.1.1
  have h1 := h.box (r + 6) (by omega) (entO k dm pk 32 j b' v)
  have hk6 := put_same γ (r + 6) w.heap.size (entO k dm pk 32 j b' v)
  have hrest : ∀ t, (t < r ∨ r + 50 ≤ t) → put γ (r + 6) w.heap.size (entO k dm pk 32 j b' v) t = γ t := fun t ht => put_other _ _ _ (by omega)
  unfold entO at h1 hk6 hrest
  generalize put γ (r + 6) _ _ = γ1 at *
  have H1 := Lib.hid h1
  have HK := Lib.hid hrest
  have HL := Lib.hid hl
  have c0 := h1.len
  have e4 := h1.own.cell hk6 (i := 4) (v := .int .i64 j) rfl
  have d1 : decide ((j : Int) < 0) = false := by simp
  have d2 : decide ((s.ls.length : Int) ≤ j) = false := by simp; omega
  clear h h1 hrest hl
  go_enter Try.func47, Try.ntmps47
  go_wp2_with fail
  generalize hW : w.alloc _ = W at *
  generalize w.heap.size = gx at *
  clear hW
  go_quiet (fail)
  clear c0 e4
  have h2 := H1.out.drewN nq
  generalize W.drewN nq = W2 at *
  obtain ⟨vc, vp, nx, pb, off, g1, c1, g2, c2, g3, c3, rv, ⟨rfl, c0, c1', c2', c3', c4', q0, q1, q2, q3, uc, up, un⟩, hend⟩ := h2.at_ HL.out
  dsimp only at q0 q1 q2 q3
  have e4 := h2.own.cell hk6 (i := 4) (v := .int .i64 j) rfl
  have hjn : (j : Int) < s.ls.length := by omega
  have H2 := Lib.hid h2
  clear h2 d1 d2
  go_wp2_with fail
  refine Perm.wp_region_pre [0, 1, 2, 3, 4, 5, 6, 7] [8, 9] (fun w' => w'.cell? ⟨gr, 0, none⟩ = some (.slice (some ⟨pb, off, none⟩) s.ls.length cap) ∧ w'.cell? ⟨gx, 4, none⟩ = some (.int .i64 j) ∧ w'.cell? ⟨pb, off + j * 4, none⟩ = some (.int .i64 1) ∧ w'.cell? ⟨pb, off + j * 4 + 1, none⟩ = some (.int .i64 fr) ∧ w'.cell? ⟨pb, off + j * 4 + 2, none⟩ = some (.int .i64 d) ∧ w'.cell? ⟨pb, off + j * 4 + 3, none⟩ = some (.int .i64 size)) (by kernel_rfl) (by kernel_rfl) (fun _ _ _ _ _ h => h) (by refine ⟨?_, ?_, ?_, ?_, ?_, ?_⟩ <;> simpa using by assumption) ?_
  repeat
    refine Perm.light_step rfl ?_ (fun w' hS => ?_) ?_
    rotate_left
    · (obtain ⟨s0, s1, s2, s3, s4, s5⟩ := hS; go_simp; try with_reducible rfl)
    simp only [Act.put, List.getElem_toArray, List.getElem_cons_zero, List.getElem_cons_succ, List.setIfInBounds_toArray, List.set_cons_zero, List.set_cons_succ]
  refine Perm.light_nil ?_
  have h3 := H2.out.drew.box (r + 7) (by omega) (.cells #[.int .i64 1, .int .i64 fr, .int .i64 d, .int .i64 size] 78)
  have k7 := put_same γ1 (r + 7) W2.drew.heap.size (.cells #[.int .i64 1, .int .i64 fr, .int .i64 d, .int .i64 size] 78)
  have k6 : put γ1 (r + 7) W2.drew.heap.size (.cells #[.int .i64 1, .int .i64 fr, .int .i64 d, .int .i64 size] 78) (r + 6) = _ := (put_other _ _ _ (by omega)).trans hk6
  have krest : ∀ t, t ≠ r + 7 → put γ1 (r + 7) W2.drew.heap.size (.cells #[.int .i64 1, .int .i64 fr, .int .i64 d, .int .i64 size] 78) t = γ1 t := fun t ht => put_other _ _ _ ht
  refine Perm.tail_run rfl (by rfl) (.value (.pointer (some ⟨W2.drew.heap.size, 0, none⟩))) _ (.inl rfl) (w' := W2.drew.alloc (.cells #[.int .i64 0, .int .i64 0, .int .i64 0, .int .i64 0] 78)) (by go_simp; try with_reducible rfl) (fun _ hS => ⟨cell_on hS.1 _, cell_on hS.2.1 _, cell_on hS.2.2.1 _, cell_on hS.2.2.2.1 _, cell_on hS.2.2.2.2.1 _, cell_on hS.2.2.2.2.2 _⟩) ?_
  simp only [Act.put, List.getElem_toArray, List.getElem_cons_zero, List.getElem_cons_succ, List.setIfInBounds_toArray, List.set_cons_zero, List.set_cons_succ]
  refine Perm.tail_run rfl (by rfl) .skip undef (.inr ⟨rfl, rfl⟩) (w' := W2.drew.alloc (.cells #[.int .i64 1, .int .i64 fr, .int .i64 d, .int .i64 size] 78)) (by go_simp; try with_reducible rfl) (Perm.no_need (by kernel_rfl)) ?_
  simp only [Act.put, List.getElem_toArray, List.getElem_cons_zero, List.getElem_cons_succ, List.setIfInBounds_toArray, List.set_cons_zero, List.set_cons_succ]
  refine Perm.tail_nil ?_
  generalize put γ1 (r + 7) _ _ = γ3 at *
  generalize W2.drew.alloc _ = W3 at *
  generalize W2.drew.heap.size = gy at *
  clear c0 c1' c2' c3' c4' q0 q1 q2 q3 uc up un e4 hend hk6
  obtain ⟨vc, vp, nx, pb', off', g1, c1, g2, c2, g3, c3, rv, ⟨hA', c0, c1', c2', c3', c4', q0, q1, q2, q3, uc, up, un⟩, hend⟩ := h3.at_ HL.out
  cases hA'
  clear q0 q1 q2 q3
  have e3 := h3.own.cell k6 (i := 3) (v := .int .i64 32) rfl
  have e4 := h3.own.cell k6 (i := 4) (v := .int .i64 j) rfl
  have e5 := h3.own.cell k6 (i := 5) (v := .int .i64 b') rfl
  have e6 := h3.own.cell k6 (i := 6) (v := .int .i64 v) rfl
  have l0 := h3.own.cell k7 (i := 0) (v := .int .i64 1) rfl
  have l1 := h3.own.cell k7 (i := 1) (v := .int .i64 fr) rfl
  have l2 := h3.own.cell k7 (i := 2) (v := .int .i64 d) rfl
  have H3 := Lib.hid h3
  have HR : Hid (∀ t, (t < r ∨ r + 50 ≤ t) → γ3 t = γ t) := Lib.hid fun t ht => (krest t (by omega)).trans (HK.out t ht)
  clear h3 H1 H2 HK krest
  obtain ⟨gc, gp, c', z, all, rfl, rfl, hC, hok, hP, z1, z8, zl, hmt⟩ := hend
  rw [he] at hmt
  have hcc := hmt.2.symm
  subst hcc
  clear hmt
  have HC := Lib.hid hC
  have HP := Lib.hid hP
  clear hC hP
  go_wp2_with fail
  go_quiet (fail)
  go_wp2_with fail
  obtain ⟨_, hin, cv, pv, nv, rv7, vc7, vp7, nx7, rd, a0, a1, a2, a3, a4, a5, a6, a7⟩ := H3.out.drewN nq
  have hat := refAt_all (H3.out.own.drewN nq) a0 a4 (by omega) d t
  have hi : atI rd d t = -1 := by
    rcases atI_cases rd d t with ⟨hi, _⟩ | ⟨i, x, _, hx, hm⟩
    · exact hi
    · rw [a5.at_ hx hm] at hf; cases hf
  rw [hi] at hat
  clear hin a1 a2 a3 a4 a5 a6 a7 hi
  go_wp2_with fail
  refine hat.mono ?_
  rintro e w5 ⟨rfl, rfl⟩
  go_wp2_with fail
  go_quiet (fail)
  go_wp2_with fail
  refine bodyPost_ret (results_tmp3 rfl _ _ _) rfl ?_
  exact ⟨rfl, _, ((H3.out.drewN _).drewN _).more (Nat.le_succ q), HR.out⟩

set_option maxRecDepth 100000 in
set_option maxHeartbeats 8000000 in
theorem rdo_other31 (h : RefL w0 γ r gr A cap q s w) (hq : q < 999) (d t k dm pk b' v : Int) {j : Nat} {fr size : Int} {c : CS} (hl : s.ls[j]? = some ⟨1, fr, d, size⟩) (he : s.en j = .cell c) {l0' q0' : Int} (hf : s.f d t = some (l0', q0')) (hne : l0' ≠ j) :
    Calls Try.prog 47 #[.pointer (some ⟨gr, 0, none⟩), .int .i64 d, .int .i64 t, .agg #[.int .i64 k, .int .i64 dm, .int .i64 pk, .int .i64 31, .int .i64 j, .int .i64 b', .int .i64 v]] w (rdPost w0 γ r gr A cap (q + 1) (11, 0, 0, s)) := by
  have hj : j < s.ls.length := (List.getElem?_eq_some_iff.1 hl).1
  have h10 : s.ls.length ≤ 10 := h.2.1.1
  have h1 := h.box (r + 6) (by omega) (entO k dm pk 31 j b' v)
  have hk6 := put_same γ (r + 6) w.heap.size (entO k dm pk 31 j b' v)
  have hrest : ∀ t, (t < r ∨ r + 50 ≤ t) → put γ (r + 6) w.heap.size (entO k dm pk 31 j b' v) t = γ t := fun t ht => put_other _ _ _ (by omega)
  unfold entO at h1 hk6 hrest
  generalize put γ (r + 6) _ _ = γ1 at *
  have H1 := Lib.hid h1
  have HK := Lib.hid hrest
  have HL := Lib.hid hl
  have c0 := h1.len
  have e4 := h1.own.cell hk6 (i := 4) (v := .int .i64 j) rfl
  have d1 : decide ((j : Int) < 0) = false := by simp
  have d2 : decide ((s.ls.length : Int) ≤ j) = false := by simp; omega
  clear h h1 hrest hl
  go_enter Try.func47, Try.ntmps47
  go_wp2_with fail
  generalize hW : w.alloc _ = W at *
  generalize w.heap.size = gx at *
  clear hW
  go_quiet (fail)
  clear c0 e4
  have h2 := H1.out.drewN nq
  generalize W.drewN nq = W2 at *
  obtain ⟨vc, vp, nx, pb, off, g1, c1, g2, c2, g3, c3, rv, ⟨rfl, c0, c1', c2', c3', c4', q0, q1, q2, q3, uc, up, un⟩, hend⟩ := h2.at_ HL.out
  dsimp only at q0 q1 q2 q3
  have e4 := h2.own.cell hk6 (i := 4) (v := .int .i64 j) rfl
  have hjn : (j : Int) < s.ls.length := by omega
  have H2 := Lib.hid h2
  clear h2 d1 d2
  go_wp2_with fail
  refine Perm.wp_region_pre [0, 1, 2, 3, 4, 5, 6, 7] [8, 9] (fun w' => w'.cell? ⟨gr, 0, none⟩ = some (.slice (some ⟨pb, off, none⟩) s.ls.length cap) ∧ w'.cell? ⟨gx, 4, none⟩ = some (.int .i64 j) ∧ w'.cell? ⟨pb, off + j * 4, none⟩ = some (.int .i64 1) ∧ w'.cell? ⟨pb, off + j * 4 + 1, none⟩ = some (.int .i64 fr) ∧ w'.cell? ⟨pb, off + j * 4 + 2, none⟩ = some (.int .i64 d) ∧ w'.cell? ⟨pb, off + j * 4 + 3, none⟩ = some (.int .i64 size)) (by kernel_rfl) (by kernel_rfl) (fun _ _ _ _ _ h => h) (by refine ⟨?_, ?_, ?_, ?_, ?_, ?_⟩ <;> simpa using by assumption) ?_
  repeat
    refine Perm.light_step rfl ?_ (fun w' hS => ?_) ?_
    rotate_left
    · (obtain ⟨s0, s1, s2, s3, s4, s5⟩ := hS; go_simp; try with_reducible rfl)
    simp only [Act.put, List.getElem_toArray, List.getElem_cons_zero, List.getElem_cons_succ, List.setIfInBounds_toArray, List.set_cons_zero, List.set_cons_succ]
  refine Perm.light_nil ?_
  have h3 := H2.out.drew.box (r + 7) (by omega) (.cells #[.int .i64 1, .int .i64 fr, .int .i64 d, .int .i64 size] 78)
  have k7 := put_same γ1 (r + 7) W2.drew.heap.size (.cells #[.int .i64 1, .int .i64 fr, .int .i64 d, .int .i64 size] 78)
  have k6 : put γ1 (r + 7) W2.drew.heap.size (.cells #[.int .i64 1, .int .i64 fr, .int .i64 d, .int .i64 size] 78) (r + 6) = _ := (put_other _ _ _ (by omega)).trans hk6
  have krest : ∀ t, t ≠ r + 7 → put γ1 (r + 7) W2.drew.heap.size (.cells #[.int .i64 1, .int .i64 fr, .int .i64 d, .int .i64 size] 78) t = γ1 t := fun t ht => put_other _ _ _ ht
  refine Perm.tail_run rfl (by rfl) (.value (.pointer (some ⟨W2.drew.heap.size, 0, none⟩))) _ (.inl rfl) (w' := W2.drew.alloc (.cells #[.int .i64 0, .int .i64 0, .int .i64 0, .int .i64 0] 78)) (by go_simp; try with_reducible rfl) (fun _ hS => ⟨cell_on hS.1 _, cell_on hS.2.1 _, cell_on hS.2.2.1 _, cell_on hS.2.2.2.1 _, cell_on hS.2.2.2.2.1 _, cell_on hS.2.2.2.2.2 _⟩) ?_
  simp only [Act.put, List.getElem_toArray, List.getElem_cons_zero, List.getElem_cons_succ, List.setIfInBounds_toArray, List.set_cons_zero, List.set_cons_succ]
  refine Perm.tail_run rfl (by rfl) .skip undef (.inr ⟨rfl, rfl⟩) (w' := W2.drew.alloc (.cells #[.int .i64 1, .int .i64 fr, .int .i64 d, .int .i64 size] 78)) (by go_simp; try with_reducible rfl) (Perm.no_need (by kernel_rfl)) ?_
  simp only [Act.put, List.getElem_toArray, List.getElem_cons_zero, List.getElem_cons_succ, List.setIfInBounds_toArray, List.set_cons_zero, List.set_cons_succ]
  refine Perm.tail_nil ?_
  generalize put γ1 (r + 7) _ _ = γ3 at *
  generalize W2.drew.alloc _ = W3 at *
  generalize W2.drew.heap.size = gy at *
  clear c0 c1' c2' c3' c4' q0 q1 q2 q3 uc up un e4 hend hk6
  obtain ⟨vc, vp, nx, pb', off', g1, c1, g2, c2, g3, c3, rv, ⟨hA', c0, c1', c2', c3', c4', q0, q1, q2, q3, uc, up, un⟩, hend⟩ := h3.at_ HL.out
  cases hA'
  clear q0 q1 q2 q3
  have e3 := h3.own.cell k6 (i := 3) (v := .int .i64 31) rfl
  have e4 := h3.own.cell k6 (i := 4) (v := .int .i64 j) rfl
  have e5 := h3.own.cell k6 (i := 5) (v := .int .i64 b') rfl
  have e6 := h3.own.cell k6 (i := 6) (v := .int .i64 v) rfl
  have l0 := h3.own.cell k7 (i := 0) (v := .int .i64 1) rfl
  have l1 := h3.own.cell k7 (i := 1) (v := .int .i64 fr) rfl
  have l2 := h3.own.cell k7 (i := 2) (v := .int .i64 d) rfl
  have H3 := Lib.hid h3
  have HR : Hid (∀ t, (t < r ∨ r + 50 ≤ t) → γ3 t = γ t) := Lib.hid fun t ht => (krest t (by omega)).trans (HK.out t ht)
  clear h3 H1 H2 HK krest
  obtain ⟨gc, gp, c', z, all, rfl, rfl, hC, hok, hP, z1, z8, zl, hmt⟩ := hend
  rw [he] at hmt
  have hcc := hmt.2.symm
  subst hcc
  clear hmt
  have HC := Lib.hid hC
  have HP := Lib.hid hP
  clear hC hP
  go_wp2_with fail
  go_quiet (fail)
  go_wp2_with fail
  obtain ⟨_, hin, cv, pv, nv, rv7, vc7, vp7, nx7, rd, a0, a1, a2, a3, a4, a5, a6, a7⟩ := H3.out.drewN nq
  have hat := refAt_all (H3.out.own.drewN nq) a0 a4 (by omega) d t
  rcases atI_cases rd d t with ⟨_, hno⟩ | ⟨i, x, hi, hx, hm⟩
  · rw [a5.no hno] at hf; cases hf
  have hxx := (a5.at_ hx hm).symm.trans hf
  simp only [Option.some.injEq, Prod.mk.injEq] at hxx
  obtain ⟨hx1, hx2⟩ := hxx
  have hlt : i < rd.length := (List.getElem?_eq_some_iff.1 hx).1
  rcases a4.2 with ⟨_, hn⟩ | ⟨g, cc, cur, rfl, _, hnc, hcm, _⟩
  · omega
  have hown := H3.out.own
  obtain ⟨gg, cap1, hv, _, k1⟩ := a4.row hown (by omega)
  cases hv
  have r2 := k1 (i * 4 + 2) _ (linkVals_get hx 2 (by omega))
  have r3 := k1 (i * 4 + 3) _ (linkVals_get hx 3 (by omega))
  rw [hx1] at r2
  rw [hx2] at r3
  have c4n := hown.cell a0 (i := 4) (v := .slice (some ⟨g, 0, none⟩) rd.length cc) rfl
  clear c4'
  rw [hi] at hat
  have hin9 : (i : Int) < rd.length := by omega
  have di : decide ((i : Int) < 0) = false := by simp
  have hi9 : i ≤ 1000 := by omega
  have hr9 : rd.length ≤ 1000 := by omega
  have bne : (l0' != (j : Int)) = true := by simpa using hne
  clear hin a0 a1 a2 a3 a4 a5 a6 a7 hi hx hm hx1 hx2 hne k1 hown
  go_wp2_with fail
  refine hat.mono ?_
  rintro e w5 ⟨rfl, rfl⟩
  go_wp2_with fail
  go_quiet (fail)
  go_wp2_with fail
  refine bodyPost_ret (results_tmp3 rfl _ _ _) rfl ?_
  exact ⟨rfl, _, ((H3.out.drewN _).drewN _).more (Nat.le_succ q), HR.out⟩

set_option maxRecDepth 100000 in
set_option maxHeartbeats 8000000 in
theorem rdo_other32 (h : RefL w0 γ r gr A cap q s w) (hq : q < 999) (d t k dm pk b' v : Int) {j : Nat} {fr size : Int} {c : CS} (hl : s.ls[j]? = some ⟨1, fr, d, size⟩) (he : s.en j = .cell c) {l0' q0' : Int} (hf : s.f d t = some (l0', q0')) (hne : l0' ≠ j) :
    Calls Try.prog 47 #[.pointer (some ⟨gr, 0, none⟩), .int .i64 d, .int .i64 t, .agg #[.int .i64 k, .int .i64 dm, .int .i64 pk, .int .i64 32, .int .i64 j, .int .i64 b', .int .i64 v]] w (rdPost w0 γ r gr A cap (q + 1) (11, 0, 0, s)) := by
  have hj : j < s.ls.length := (List.getElem?_eq_some_iff.1 hl).1
  have h10 : s.ls.length ≤ 10 := h.2.1.1
  have h1 := h.box (r + 6) (by omega) (entO k dm pk 32 j b' v)
  have hk6 := put_same γ (r + 6) w.heap.size (entO k dm pk 32 j b' v)
  have hrest : ∀ t, (t < r ∨ r + 50 ≤ t) → put γ (r + 6) w.heap.size (entO k dm pk 32 j b' v) t = γ t := fun t ht => put_other _ _ _ (by omega)
  unfold entO at h1 hk6 hrest
  generalize put γ (r + 6) _ _ = γ1 at *
  have H1 := Lib.hid h1
  have HK := Lib.hid hrest
  have HL := Lib.hid hl
  have c0 := h1.len
  have e4 := h1.own.cell hk6 (i := 4) (v := .int .i64 j) rfl
  have d1 : decide ((j : Int) < 0) = false := by simp
  have d2 : decide ((s.ls.length : Int) ≤ j) = false := by simp; omega
  clear h h1 hrest hl
  go_enter Try.func47, Try.ntmps47
  go_wp2_with fail
  generalize hW : w.alloc _ = W at *
  generalize w.heap.size = gx at *
  clear hW
  go_quiet (fail)
  clear c0 e4
  have h2 := H1.out.drewN nq
  generalize W.drewN nq = W2 at *
  obtain ⟨vc, vp, nx, pb, off, g1, c1, g2, c2, g3, c3, rv, ⟨rfl, c0, c1', c2', c3', c4', q0, q1, q2, q3, uc, up, un⟩, hend⟩ := h2.at_ HL.out
  dsimp only at q0 q1 q2 q3
  have e4 := h2.own.cell hk6 (i := 4) (v := .int .i64 j) rfl
  have hjn : (j : Int) < s.ls.length := by omega
  have H2 := Lib.hid h2
  clear h2 d1 d2
  go_wp2_with fail
  refine Perm.wp_region_pre [0, 1, 2, 3, 4, 5, 6, 7] [8, 9] (fun w' => w'.cell? ⟨gr, 0, none⟩ = some (.slice (some ⟨pb, off, none⟩) s.ls.length cap) ∧ w'.cell? ⟨gx, 4, none⟩ = some (.int .i64 j) ∧ w'.cell? ⟨pb, off + j * 4, none⟩ = some (.int .i64 1) ∧ w'.cell? ⟨pb, off + j * 4 + 1, none⟩ = some (.int .i64 fr) ∧ w'.cell? ⟨pb, off + j * 4 + 2, none⟩ = some (.int .i64 d) ∧ w'.cell? ⟨pb, off + j * 4 + 3, none⟩ = some (.int .i64 size)) (by kernel_rfl) (by kernel_rfl) (fun _ _ _ _ _ h => h) (by refine ⟨?_, ?_, ?_, ?_, ?_, ?_⟩ <;> simpa using by assumption) ?_
  repeat
    refine Perm.light_step rfl ?_ (fun w' hS => ?_) ?_
    rotate_left
    · (obtain ⟨s0, s1, s2, s3, s4, s5⟩ := hS; go_simp; try with_reducible rfl)
    simp only [Act.put, List.getElem_toArray, List.getElem_cons_zero, List.getElem_cons_succ, List.setIfInBounds_toArray, List.set_cons_zero, List.set_cons_succ]
  refine Perm.light_nil ?_
  have h3 := H2.out.drew.box (r + 7) (by omega) (.cells #[.int .i64 1, .int .i64 fr, .int .i64 d, .int .i64 size] 78)
  have k7 := put_same γ1 (r + 7) W2.drew.heap.size (.cells #[.int .i64 1, .int .i64 fr, .int .i64 d, .int .i64 size] 78)
  have k6 : put γ1 (r + 7) W2.drew.heap.size (.cells #[.int .i64 1, .int .i64 fr, .int .i64 d, .int .i64 size] 78) (r + 6) = _ := (put_other _ _ _ (by omega)).trans hk6
  have krest : ∀ t, t ≠ r + 7 → put γ1 (r + 7) W2.drew.heap.size (.cells #[.int .i64 1, .int .i64 fr, .int .i64 d, .int .i64 size] 78) t = γ1 t := fun t ht => put_other _ _ _ ht
  refine Perm.tail_run rfl (by rfl) (.value (.pointer (some ⟨W2.drew.heap.size, 0, none⟩))) _ (.inl rfl) (w' := W2.drew.alloc (.cells #[.int .i64 0, .int .i64 0, .int .i64 0, .int .i64 0] 78)) (by go_simp; try with_reducible rfl) (fun _ hS => ⟨cell_on hS.1 _, cell_on hS.2.1 _, cell_on hS.2.2.1 _, cell_on hS.2.2.2.1 _, cell_on hS.2.2.2.2.1 _, cell_on hS.2.2.2.2.2 _⟩) ?_
  simp only [Act.put, List.getElem_toArray, List.getElem_cons_zero, List.getElem_cons_succ, List.setIfInBounds_toArray, List.set_cons_zero, List.set_cons_succ]
  refine Perm.tail_run rfl (by rfl) .skip undef (.inr ⟨rfl, rfl⟩) (w' := W2.drew.alloc (.cells #[.int .i64 1, .int .i64 fr, .int .i64 d, .int .i64 size] 78)) (by go_simp; try with_reducible rfl) (Perm.no_need (by kernel_rfl)) ?_
  simp only [Act.put, List.getElem_toArray, List.getElem_cons_zero, List.getElem_cons_succ, List.setIfInBounds_toArray, List.set_cons_zero, List.set_cons_succ]
  refine Perm.tail_nil ?_
  generalize put γ1 (r + 7) _ _ = γ3 at *
  generalize W2.drew.alloc _ = W3 at *
  generalize W2.drew.heap.size = gy at *
  clear c0 c1' c2' c3' c4' q0 q1 q2 q3 uc up un e4 hend hk6
  obtain ⟨vc, vp, nx, pb', off', g1, c1, g2, c2, g3, c3, rv, ⟨hA', c0, c1', c2', c3', c4', q0, q1, q2, q3, uc, up, un⟩, hend⟩ := h3.at_ HL.out
  cases hA'
  clear q0 q1 q2 q3
  have e3 := h3.own.cell k6 (i := 3) (v := .int .i64 32) rfl
  have e4 := h3.own.cell k6 (i := 4) (v := .int .i64 j) rfl
  have e5 := h3.own.cell k6 (i := 5) (v := .int .i64 b') rfl
  have e6 := h3.own.cell k6 (i := 6) (v := .int .i64 v) rfl
  have l0 := h3.own.cell k7 (i := 0) (v := .int .i64 1) rfl
  have l1 := h3.own.cell k7 (i := 1) (v := .int .i64 fr) rfl
  have l2 := h3.own.cell k7 (i := 2) (v := .int .i64 d) rfl
  have H3 := Lib.hid h3
  have HR : Hid (∀ t, (t < r ∨ r + 50 ≤ t) → γ3 t = γ t) := Lib.hid fun t ht => (krest t (by omega)).trans (HK.out t ht)
  clear h3 H1 H2 HK krest
  obtain ⟨gc, gp, c', z, all, rfl, rfl, hC, hok, hP, z1, z8, zl, hmt⟩ := hend
  rw [he] at hmt
  have hcc := hmt.2.symm
  subst hcc
  clear hmt
  have HC := Lib.hid hC
  have HP := Lib.hid hP
  clear hC hP
  go_wp2_with fail
  go_quiet (fail)
  go_wp2_with fail
  obtain ⟨_, hin, cv, pv, nv, rv7, vc7, vp7, nx7, rd, a0, a1, a2, a3, a4, a5, a6, a7⟩ := H3.out.drewN nq
  have hat := refAt_all (H3.out.own.drewN nq) a0 a4 (by omega) d t
  rcases atI_cases rd d t with ⟨_, hno⟩ | ⟨i, x, hi, hx, hm⟩
  · rw [a5.no hno] at hf; cases hf
  have hxx := (a5.at_ hx hm).symm.trans hf
  simp only [Option.some.injEq, Prod.mk.injEq] at hxx
  obtain ⟨hx1, hx2⟩ := hxx
  have hlt : i < rd.length := (List.getElem?_eq_some_iff.1 hx).1
  rcases a4.2 with ⟨_, hn⟩ | ⟨g, cc, cur, rfl, _, hnc, hcm, _⟩
  · omega
  have hown := H3.out.own
  obtain ⟨gg, cap1, hv, _, k1⟩ := a4.row hown (by omega)
  cases hv
  have r2 := k1 (i * 4 + 2) _ (linkVals_get hx 2 (by omega))
  have r3 := k1 (i * 4 + 3) _ (linkVals_get hx 3 (by omega))
  rw [hx1] at r2
  rw [hx2] at r3
  have c4n := hown.cell a0 (i := 4) (v := .slice (some ⟨g, 0, none⟩) rd.length cc) rfl
  clear c4'
  rw [hi] at hat
  have hin9 : (i : Int) < rd.length := by omega
  have di : decide ((i : Int) < 0) = false := by simp
  have hi9 : i ≤ 1000 := by omega
  have hr9 : rd.length ≤ 1000 := by omega
  have bne : (l0' != (j : Int)) = true := by simpa using hne
  clear hin a0 a1 a2 a3 a4 a5 a6 a7 hi hx hm hx1 hx2 hne k1 hown
  go_wp2_with fail
  refine hat.mono ?_
  rintro e w5 ⟨rfl, rfl⟩
  go_wp2_with fail
  go_quiet (fail)
  go_wp2_with fail
  refine bodyPost_ret (results_tmp3 rfl _ _ _) rfl ?_
  exact ⟨rfl, _, ((H3.out.drewN _).drewN _).more (Nat.le_succ q), HR.out⟩

set_option maxRecDepth 100000 in
set_option maxHeartbeats 8000000 in
theorem rdo_word (h : RefL w0 γ r gr A cap q s w) (hq : q < 999) (d t k dm pk b' v : Int) {j : Nat} {fr size : Int} {c : CS} (hl : s.ls[j]? = some ⟨1, fr, d, size⟩) (he : s.en j = .cell c) {q0' : Int} (hf : s.f d t = some ((j : Int), q0')) :
    Calls Try.prog 47 #[.pointer (some ⟨gr, 0, none⟩), .int .i64 d, .int .i64 t, .agg #[.int .i64 k, .int .i64 dm, .int .i64 pk, .int .i64 31, .int .i64 j, .int .i64 b', .int .i64 v]] w (rdPost w0 γ r gr A cap (q + 1) (c.wordE b', c.wordN b', 0, s)) := by
  have hj : j < s.ls.length := (List.getElem?_eq_some_iff.1 hl).1
  have h10 : s.ls.length ≤ 10 := h.2.1.1
  have h1 := h.box (r + 6) (by omega) (entO k dm pk 31 j b' v)
  have hk6 := put_same γ (r + 6) w.heap.size (entO k dm pk 31 j b' v)
  have hrest : ∀ t, (t < r ∨ r + 50 ≤ t) → put γ (r + 6) w.heap.size (entO k dm pk 31 j b' v) t = γ t := fun t ht => put_other _ _ _ (by omega)
  unfold entO at h1 hk6 hrest
  generalize put γ (r + 6) _ _ = γ1 at *
  have H1 := Lib.hid h1
  have HK := Lib.hid hrest
  have HL := Lib.hid hl
  have c0 := h1.len
  have e4 := h1.own.cell hk6 (i := 4) (v := .int .i64 j) rfl
  have d1 : decide ((j : Int) < 0) = false := by simp
  have d2 : decide ((s.ls.length : Int) ≤ j) = false := by simp; omega
  clear h h1 hrest hl
  go_enter Try.func47, Try.ntmps47
  go_wp2_with fail
  generalize hW : w.alloc _ = W at *
  generalize w.heap.size = gx at *
  clear hW
  go_quiet (fail)
  clear c0 e4
  have h2 := H1.out.drewN nq
  generalize W.drewN nq = W2 at *
  obtain ⟨vc, vp, nx, pb, off, g1, c1, g2, c2, g3, c3, rv, ⟨rfl, c0, c1', c2', c3', c4', q0, q1, q2, q3, uc, up, un⟩, hend⟩ := h2.at_ HL.out
  dsimp only at q0 q1 q2 q3
  have e4 := h2.own.cell hk6 (i := 4) (v := .int .i64 j) rfl
  have hjn : (j : Int) < s.ls.length := by omega
  have H2 := Lib.hid h2
  clear h2 d1 d2
  go_wp2_with fail
  refine Perm.wp_region_pre [0, 1, 2, 3, 4, 5, 6, 7] [8, 9] (fun w' => w'.cell? ⟨gr, 0, none⟩ = some (.slice (some ⟨pb, off, none⟩) s.ls.length cap) ∧ w'.cell? ⟨gx, 4, none⟩ = some (.int .i64 j) ∧ w'.cell? ⟨pb, off + j * 4, none⟩ = some (.int .i64 1) ∧ w'.cell? ⟨pb, off + j * 4 + 1, none⟩ = some (.int .i64 fr) ∧ w'.cell? ⟨pb, off + j * 4 + 2, none⟩ = some (.int .i64 d) ∧ w'.cell? ⟨pb, off + j * 4 + 3, none⟩ = some (.int .i64 size)) (by kernel_rfl) (by kernel_rfl) (fun _ _ _ _ _ h => h) (by refine ⟨?_, ?_, ?_, ?_, ?_, ?_⟩ <;> simpa using by assumption) ?_
  repeat
    refine Perm.light_step rfl ?_ (fun w' hS => ?_) ?_
    rotate_left
    · (obtain ⟨s0, s1, s2, s3, s4, s5⟩ := hS; go_simp; try with_reducible rfl)
    simp only [Act.put, List.getElem_toArray, List.getElem_cons_zero, List.getElem_cons_succ, List.setIfInBounds_toArray, List.set_cons_zero, List.set_cons_succ]
  refine Perm.light_nil ?_
  have h3 := H2.out.drew.box (r + 7) (by omega) (.cells #[.int .i64 1, .int .i64 fr, .int .i64 d, .int .i64 size] 78)
  have k7 := put_same γ1 (r + 7) W2.drew.heap.size (.cells #[.int .i64 1, .int .i64 fr, .int .i64 d, .int .i64 size] 78)
  have k6 : put γ1 (r + 7) W2.drew.heap.size (.cells #[.int .i64 1, .int .i64 fr, .int .i64 d, .int .i64 size] 78) (r + 6) = _ := (put_other _ _ _ (by omega)).trans hk6
  have krest : ∀ t, t ≠ r + 7 → put γ1 (r + 7) W2.drew.heap.size (.cells #[.int .i64 1, .int .i64 fr, .int .i64 d, .int .i64 size] 78) t = γ1 t := fun t ht => put_other _ _ _ ht
  refine Perm.tail_run rfl (by rfl) (.value (.pointer (some ⟨W2.drew.heap.size, 0, none⟩))) _ (.inl rfl) (w' := W2.drew.alloc (.cells #[.int .i64 0, .int .i64 0, .int .i64 0, .int .i64 0] 78)) (by go_simp; try with_reducible rfl) (fun _ hS => ⟨cell_on hS.1 _, cell_on hS.2.1 _, cell_on hS.2.2.1 _, cell_on hS.2.2.2.1 _, cell_on hS.2.2.2.2.1 _, cell_on hS.2.2.2.2.2 _⟩) ?_
  simp only [Act.put, List.getElem_toArray, List.getElem_cons_zero, List.getElem_cons_succ, List.setIfInBounds_toArray, List.set_cons_zero, List.set_cons_succ]
  refine Perm.tail_run rfl (by rfl) .skip undef (.inr ⟨rfl, rfl⟩) (w' := W2.drew.alloc (.cells #[.int .i64 1, .int .i64 fr, .int .i64 d, .int .i64 size] 78)) (by go_simp; try with_reducible rfl) (Perm.no_need (by kernel_rfl)) ?_
  simp only [Act.put, List.getElem_toArray, List.getElem_cons_zero, List.getElem_cons_succ, List.setIfInBounds_toArray, List.set_cons_zero, List.set_cons_succ]
  refine Perm.tail_nil ?_
  generalize put γ1 (r + 7) _ _ = γ3 at *
  generalize W2.drew.alloc _ = W3 at *
  generalize W2.drew.heap.size = gy at *
  clear c0 c1' c2' c3' c4' q0 q1 q2 q3 uc up un e4 hend hk6
  obtain ⟨vc, vp, nx, pb', off', g1, c1, g2, c2, g3, c3, rv, ⟨hA', c0, c1', c2', c3', c4', q0, q1, q2, q3, uc, up, un⟩, hend⟩ := h3.at_ HL.out
  cases hA'
  clear q0 q1 q2 q3
  have e3 := h3.own.cell k6 (i := 3) (v := .int .i64 31) rfl
  have e4 := h3.own.cell k6 (i := 4) (v := .int .i64 j) rfl
  have e5 := h3.own.cell k6 (i := 5) (v := .int .i64 b') rfl
  have e6 := h3.own.cell k6 (i := 6) (v := .int .i64 v) rfl
  have l0 := h3.own.cell k7 (i := 0) (v := .int .i64 1) rfl
  have l1 := h3.own.cell k7 (i := 1) (v := .int .i64 fr) rfl
  have l2 := h3.own.cell k7 (i := 2) (v := .int .i64 d) rfl
  have H3 := Lib.hid h3
  have HR : Hid (∀ t, (t < r ∨ r + 50 ≤ t) → γ3 t = γ t) := Lib.hid fun t ht => (krest t (by omega)).trans (HK.out t ht)
  clear h3 H1 H2 HK krest
  obtain ⟨gc, gp, c', z, all, rfl, rfl, hC, hok, hP, z1, z8, zl, hmt⟩ := hend
  rw [he] at hmt
  have hcc := hmt.2.symm
  subst hcc
  clear hmt
  have HC := Lib.hid hC
  have HP := Lib.hid hP
  clear hC hP
  go_wp2_with fail
  go_quiet (fail)
  go_wp2_with fail
  obtain ⟨_, hin, cv, pv, nv, rv7, vc7, vp7, nx7, rd, a0, a1, a2, a3, a4, a5, a6, a7⟩ := H3.out.drewN nq
  have hat := refAt_all (H3.out.own.drewN nq) a0 a4 (by omega) d t
  rcases atI_cases rd d t with ⟨_, hno⟩ | ⟨i, x, hi, hx, hm⟩
  · rw [a5.no hno] at hf; cases hf
  have hxx := (a5.at_ hx hm).symm.trans hf
  simp only [Option.some.injEq, Prod.mk.injEq] at hxx
  obtain ⟨hx1, hx2⟩ := hxx
  have hlt : i < rd.length := (List.getElem?_eq_some_iff.1 hx).1
  rcases a4.2 with ⟨_, hn⟩ | ⟨g, cc, cur, rfl, _, hnc, hcm, _⟩
  · omega
  have hown := H3.out.own
  obtain ⟨gg, cap1, hv, _, k1⟩ := a4.row hown (by omega)
  cases hv
  have r2 := k1 (i * 4 + 2) _ (linkVals_get hx 2 (by omega))
  have r3 := k1 (i * 4 + 3) _ (linkVals_get hx 3 (by omega))
  rw [hx1] at r2
  rw [hx2] at r3
  have c4n := hown.cell a0 (i := 4) (v := .slice (some ⟨g, 0, none⟩) rd.length cc) rfl
  clear c4'
  rw [hi] at hat
  have hin9 : (i : Int) < rd.length := by omega
  have di : decide ((i : Int) < 0) = false := by simp
  have hi9 : i ≤ 1000 := by omega
  have hr9 : rd.length ≤ 1000 := by omega
  have bne : ((j : Int) != (j : Int)) = false := by simp
  have hwd := fun m => rcWord_any (H3.out.own.drewN m) HC.out hok b'
  clear hin a0 a1 a2 a3 a4 a5 a6 a7 hi hx hm hx1 hx2 k1 hown
  go_wp2_with fail
  refine hat.mono ?_
  rintro e w5 ⟨rfl, rfl⟩
  go_wp2_with fail
  go_quiet (fail)
  go_wp2_with fail
  refine (hwd _).mono ?_
  rintro e w6 ⟨rfl, rfl⟩
  rw [ans2_eq]
  clear hwd hat
  generalize c.wordN b' = x1 at *
  generalize c.wordE b' = x2 at *
  go_wp2_with fail
  refine bodyPost_ret (results_tmp3 rfl _ _ _) rfl ?_
  exact ⟨rfl, _, (H3.out.drewN _).more (Nat.le_succ q), HR.out⟩

set_option maxRecDepth 100000 in
set_option maxHeartbeats 8000000 in
theorem rdo_end (h : RefL w0 γ r gr A cap q s w) (hq : q < 999) (d t k dm pk b' v : Int) {j : Nat} {fr size : Int} {c : CS} (hl : s.ls[j]? = some ⟨1, fr, d, size⟩) (he : s.en j = .cell c) {q0' : Int} (hf : s.f d t = some ((j : Int), q0')) :
    Calls Try.prog 47 #[.pointer (some ⟨gr, 0, none⟩), .int .i64 d, .int .i64 t, .agg #[.int .i64 k, .int .i64 dm, .int .i64 pk, .int .i64 32, .int .i64 j, .int .i64 b', .int .i64 v]] w (rdPost w0 γ r gr A cap (q + 1) (c.sameE q0', 0, 0, { s with f := fnDel s.f d t })) := by
  have hj : j < s.ls.length := (List.getElem?_eq_some_iff.1 hl).1
  have h10 : s.ls.length ≤ 10 := h.2.1.1
  have h1 := h.box (r + 6) (by omega) (entO k dm pk 32 j b' v)
  have hk6 := put_same γ (r + 6) w.heap.size (entO k dm pk 32 j b' v)
  have hrest : ∀ t, (t < r ∨ r + 50 ≤ t) → put γ (r + 6) w.heap.size (entO k dm pk 32 j b' v) t = γ t := fun t ht => put_other _ _ _ (by omega)
  unfold entO at h1 hk6 hrest
  generalize put γ (r + 6) _ _ = γ1 at *
  have H1 := Lib.hid h1
  have HK := Lib.hid hrest
  have HL := Lib.hid hl
  have c0 := h1.len
  have e4 := h1.own.cell hk6 (i := 4) (v := .int .i64 j) rfl
  have d1 : decide ((j : Int) < 0) = false := by simp
  have d2 : decide ((s.ls.length : Int) ≤ j) = false := by simp; omega
  clear h h1 hrest hl
  go_enter Try.func47, Try.ntmps47
  go_wp2_with fail
  generalize hW : w.alloc _ = W at *
  generalize w.heap.size = gx at *
  clear hW
  go_quiet (fail)
  clear c0 e4
  have h2 := H1.out.drewN nq
  generalize W.drewN nq = W2 at *
  obtain ⟨vc, vp, nx, pb, off, g1, c1, g2, c2, g3, c3, rv, ⟨rfl, c0, c1', c2', c3', c4', q0, q1, q2, q3, uc, up, un⟩, hend⟩ := h2.at_ HL.out
  dsimp only at q0 q1 q2 q3
  have e4 := h2.own.cell hk6 (i := 4) (v := .int .i64 j) rfl
  have hjn : (j : Int) < s.ls.length := by omega
  have H2 := Lib.hid h2
  clear h2 d1 d2
  go_wp2_with fail
  refine Perm.wp_region_pre [0, 1, 2, 3, 4, 5, 6, 7] [8, 9] (fun w' => w'.cell? ⟨gr, 0, none⟩ = some (.slice (some ⟨pb, off, none⟩) s.ls.length cap) ∧ w'.cell? ⟨gx, 4, none⟩ = some (.int .i64 j) ∧ w'.cell? ⟨pb, off + j * 4, none⟩ = some (.int .i64 1) ∧ w'.cell? ⟨pb, off + j * 4 + 1, none⟩ = some (.int .i64 fr) ∧ w'.cell? ⟨pb, off + j * 4 + 2, none⟩ = some (.int .i64 d) ∧ w'.cell? ⟨pb, off + j * 4 + 3, none⟩ = some (.int .i64 size)) (by kernel_rfl) (by kernel_rfl) (fun _ _ _ _ _ h => h) (by refine ⟨?_, ?_, ?_, ?_, ?_, ?_⟩ <;> simpa using by assumption) ?_
  repeat
    refine Perm.light_step rfl ?_ (fun w' hS => ?_) ?_
    rotate_left
    · (obtain ⟨s0, s1, s2, s3, s4, s5⟩ := hS; go_simp; try with_reducible rfl)
    simp only [Act.put, List.getElem_toArray, List.getElem_cons_zero, List.getElem_cons_succ, List.setIfInBounds_toArray, List.set_cons_zero, List.set_cons_succ]
  refine Perm.light_nil ?_
  have h3 := H2.out.drew.box (r + 7) (by omega) (.cells #[.int .i64 1, .int .i64 fr, .int .i64 d, .int .i64 size] 78)
  have k7 := put_same γ1 (r + 7) W2.drew.heap.size (.cells #[.int .i64 1, .int .i64 fr, .int .i64 d, .int .i64 size] 78)
  have k6 : put γ1 (r + 7) W2.drew.heap.size (.cells #[.int .i64 1, .int .i64 fr, .int .i64 d, .int .i64 size] 78) (r + 6) = _ := (put_other _ _ _ (by omega)).trans hk6
  have krest : ∀ t, t ≠ r + 7 → put γ1 (r + 7) W2.drew.heap.size (.cells #[.int .i64 1, .int .i64 fr, .int .i64 d, .int .i64 size] 78) t = γ1 t := fun t ht => put_other _ _ _ ht
  refine Perm.tail_run rfl (by rfl) (.value (.pointer (some ⟨W2.drew.heap.size, 0, none⟩))) _ (.inl rfl) (w' := W2.drew.alloc (.cells #[.int .i64 0, .int .i64 0, .int .i64 0, .int .i64 0] 78)) (by go_simp; try with_reducible rfl) (fun _ hS => ⟨cell_on hS.1 _, cell_on hS.2.1 _, cell_on hS.2.2.1 _, cell_on hS.2.2.2.1 _, cell_on hS.2.2.2.2.1 _, cell_on hS.2.2.2.2.2 _⟩) ?_
  simp only [Act.put, List.getElem_toArray, List.getElem_cons_zero, List.getElem_cons_succ, List.setIfInBounds_toArray, List.set_cons_zero, List.set_cons_succ]
  refine Perm.tail_run rfl (by rfl) .skip undef (.inr ⟨rfl, rfl⟩) (w' := W2.drew.alloc (.cells #[.int .i64 1, .int .i64 fr, .int .i64 d, .int .i64 size] 78)) (by go_simp; try with_reducible rfl) (Perm.no_need (by kernel_rfl)) ?_
  simp only [Act.put, List.getElem_toArray, List.getElem_cons_zero, List.getElem_cons_succ, List.setIfInBounds_toArray, List.set_cons_zero, List.set_cons_succ]
  refine Perm.tail_nil ?_
  generalize put γ1 (r + 7) _ _ = γ3 at *
  generalize W2.drew.alloc _ = W3 at *
  generalize W2.drew.heap.size = gy at *
  clear c0 c1' c2' c3' c4' q0 q1 q2 q3 uc up un e4 hend hk6
  obtain ⟨vc, vp, nx, pb', off', g1, c1, g2, c2, g3, c3, rv, ⟨hA', c0, c1', c2', c3', c4', q0, q1, q2, q3, uc, up, un⟩, hend⟩ := h3.at_ HL.out
  cases hA'
  clear q0 q1 q2 q3
  have e3 := h3.own.cell k6 (i := 3) (v := .int .i64 32) rfl
  have e4 := h3.own.cell k6 (i := 4) (v := .int .i64 j) rfl
  have e5 := h3.own.cell k6 (i := 5) (v := .int .i64 b') rfl
  have e6 := h3.own.cell k6 (i := 6) (v := .int .i64 v) rfl
  have l0 := h3.own.cell k7 (i := 0) (v := .int .i64 1) rfl
  have l1 := h3.own.cell k7 (i := 1) (v := .int .i64 fr) rfl
  have l2 := h3.own.cell k7 (i := 2) (v := .int .i64 d) rfl
  have H3 := Lib.hid h3
  have HR : Hid (∀ t, (t < r ∨ r + 50 ≤ t) → γ3 t = γ t) := Lib.hid fun t ht => (krest t (by omega)).trans (HK.out t ht)
  clear h3 H1 H2 HK krest
  obtain ⟨gc, gp, c', z, all, rfl, rfl, hC, hok, hP, z1, z8, zl, hmt⟩ := hend
  rw [he] at hmt
  have hcc := hmt.2.symm
  subst hcc
  clear hmt
  have HC := Lib.hid hC
  have HP := Lib.hid hP
  clear hC hP
  go_wp2_with fail
  go_quiet (fail)
  go_wp2_with fail
  obtain ⟨_, hin, cv, pv, nv, rv7, vc7, vp7, nx7, rd, a0, a1, a2, a3, a4, a5, a6, a7⟩ := H3.out.drewN nq
  have hat := refAt_all (H3.out.own.drewN nq) a0 a4 (by omega) d t
  rcases atI_cases rd d t with ⟨_, hno⟩ | ⟨i, x, hi, hx, hm⟩
  · rw [a5.no hno] at hf; cases hf
  have hxx := (a5.at_ hx hm).symm.trans hf
  simp only [Option.some.injEq, Prod.mk.injEq] at hxx
  obtain ⟨hx1, hx2⟩ := hxx
  have hlt : i < rd.length := (List.getElem?_eq_some_iff.1 hx).1
  rcases a4.2 with ⟨_, hn⟩ | ⟨g, cc, cur, rfl, _, hnc, hcm, _⟩
  · omega
  have hown := H3.out.own
  obtain ⟨gg, cap1, hv, _, k1⟩ := a4.row hown (by omega)
  cases hv
  have r2 := k1 (i * 4 + 2) _ (linkVals_get hx 2 (by omega))
  have r3 := k1 (i * 4 + 3) _ (linkVals_get hx 3 (by omega))
  rw [hx1] at r2
  rw [hx2] at r3
  have c4n := hown.cell a0 (i := 4) (v := .slice (some ⟨g, 0, none⟩) rd.length cc) rfl
  clear c4'
  rw [hi] at hat
  have hin9 : (i : Int) < rd.length := by omega
  have di : decide ((i : Int) < 0) = false := by simp
  have hi9 : i ≤ 1000 := by omega
  have hr9 : rd.length ≤ 1000 := by omega
  have bne : ((j : Int) != (j : Int)) = false := by simp
  have hfg := fun m => refForget_any (H3.out.drewN m) (by omega) d t
  clear hin a0 a1 a2 a3 a4 a5 a6 a7 hi hx hm hx1 hx2 k1 hown
  go_wp2_with fail
  refine hat.mono ?_
  rintro e w5 ⟨rfl, rfl⟩
  go_wp2_with fail
  go_quiet (fail)
  go_wp2_with fail
  refine (hfg _).mono ?_
  rintro e w6 ⟨rfl, γ6, h6, hk6'⟩
  have hsm := rcSame_any h6.own (HC.out.keep (hk6' _ (by omega) (by omega) (by omega)) (hk6' _ (by omega) (by omega) (by omega))) hok q0'
  have H6 := Lib.hid h6
  have HK6 := Lib.hid hk6'
  clear h6 hk6' hfg hat
  go_wp2_with fail
  refine hsm.mono ?_
  rintro e w7 ⟨rfl, ho7⟩
  rw [ans_eq]
  generalize c.sameE q0' = x1 at *
  have hfin : rdPost w0 γ r gr (some ⟨pb, off, none⟩) cap (q + 1) (x1, 0, 0, { s with f := fnDel s.f d t }) (.returned (.tuple #[.int .i64 x1, .int .i64 0, .int .i64 0])) w7 :=
    ⟨rfl, γ6, (H6.out.keep ho7 fun _ _ => rfl).more (Nat.le_succ q), fun k hk => (HK6.out k (by omega) (by omega) (by omega)).trans (HR.out k hk)⟩
  have HF := Lib.hid hfin
  clear hfin ho7 hsm
  go_wp2_with fail
  refine bodyPost_ret (results_tmp3 rfl _ _ _) rfl ?_
  exact HF.out

end
end Go.Proofs.Ytniiefcbiapieaa