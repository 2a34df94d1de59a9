/- What Do comes to where the link is there. -/
import Derived.Test.YtniiefcbiapieaaLnk
import Derived.StillTailTactics
import Derived.Test.YtniiefcbiapieaaPre
namespace Go.Proofs.Ytniiefcbiapieaa
open Go.RowKit Go.ChangeMaps
theorem enters59 : enters Try.prog 59 = true := by kernel_rfl
theorem enters60 : enters Try.prog 60 = true := by kernel_rfl
theorem CS.Ok.wS {c : CS} (h : c.Ok) (op t i v : Int) (hq : c.q < 999) : (c.wS op t i v).Ok := by
  unfold CS.wS
  split
  · exact h.begin t hq
  · split
    · exact h.put t i v
    · exact h.end_ t hq
theorem CS.wS_q (c : CS) (op t i v : Int) : (c.wS op t i v).q ≤ c.q + 1 := by
  unfold CS.wS
  split
  · exact c.begin_q t
  · split
    · rw [c.put_q]; omega
    · exact c.end_q t
section
variable {w0 w : World} {γ γ0 : Nat → Option (Nat × Obj)} {b gl gm tc g clock : Nat} {lv ev : Value} {es : Array MapEntry} {f : Int → Int → Option (Int × Int)} {c : CS} {d t k dm pk op a b' v : Int} {g5 : Nat}

set_option maxRecDepth 100000 in
set_option maxHeartbeats 4000000 in
theorem do_send {s : LS} (h : LAt w0 γ b gl s w) (h10 : s.ls.length ≤ 10) (d t k dm pk b' v : Int) {j : Nat} {l : LinkS} (hl : s.ls[j]? = some l) {z : Nat} {all : List Int} {next : Int} (he : s.en j = .tap z all next) (hage : all.length < 1000) (hm0 : mayE s.ls d 33 j = 0) :
    Calls Try.prog 41 #[.pointer (some ⟨gl, 0, none⟩), .int .i64 d, .int .i64 t, .agg #[.int .i64 k, .int .i64 dm, .int .i64 pk, .int .i64 33, .int .i64 j, .int .i64 b', .int .i64 v]] w (doSame w0 γ b gl 0 { s with en := updE s.en j (.tap z (all ++ [b']) next) }) := by
  have hj : j < s.ls.length := (List.getElem?_eq_some_iff.1 hl).1
  have h1 := h.box (entO k dm pk 33 j b' v)
  have hk4 := put_same γ (b + 4) w.heap.size (entO k dm pk 33 j b' v)
  have hm := may_any h1 h10 k dm pk 33 j b' v d
  rw [hm0] at hm
  have hrest : ∀ t, (t < b ∨ b + 30 ≤ t) → put γ (b + 4) w.heap.size (entO k dm pk 33 j b' v) t = γ t := fun t ht => put_other _ _ _ (by omega)
  unfold entO at hm hk4 hrest h1
  generalize put γ (b + 4) _ _ = γ1 at *
  have H1 := Lib.hid h1
  clear h h1 hm0
  have HK := Lib.hid hrest
  clear hrest
  go_enter Try.func41, Try.ntmps41
  go_wp2_with fail
  refine hm.mono ?_
  rintro e w1 ⟨rfl, hb⟩
  have h2 := LinksAt.below' H1.out hb
  obtain ⟨u, ⟨g, cap, g2, cap2, c0, c1, q0, q1, q2, q3, cu⟩, hend⟩ := h2.at_ hl
  rw [he] at hend
  obtain ⟨hk1, gt, gp, rfl, ht, hp, z1, z8⟩ := hend
  have t0 := h2.own.cell ht (i := 0) (v := .pointer (some ⟨gp, 0, none⟩)) rfl
  have hta := ta_t (.pointer (some ⟨gt, 0, none⟩))
  have HP := Lib.hid hp
  have HT := Lib.hid ht
  have HQ := Lib.hid hk1
  clear hp ht hk1
  have e0 := h2.own.cell hk4 (i := 0) (v := .int .i64 k) rfl
  have e1 := h2.own.cell hk4 (i := 1) (v := .int .i64 dm) rfl
  have e2 := h2.own.cell hk4 (i := 2) (v := .int .i64 pk) rfl
  have e3 := h2.own.cell hk4 (i := 3) (v := .int .i64 33) rfl
  have e4 := h2.own.cell hk4 (i := 4) (v := .int .i64 j) rfl
  have e5 := h2.own.cell hk4 (i := 5) (v := .int .i64 b') rfl
  have e6 := h2.own.cell hk4 (i := 6) (v := .int .i64 v) rfl
  have hjn : (j : Int) < s.ls.length := by omega
  have H2 := Lib.hid h2
  clear hm hb h2 hk4 q0 q1 q2 q3 c0
  go_wp2_with fail
  go_still_tail 14, (by kernel_rfl)
  change wpList _ _ _ _ _ (World.drew _)
  go_wp2_with fail
  refine (send_any H2.out.own.drew HP.out z1 z8 (by omega) (v := b')).mono ?_
  rintro e w2 ⟨rfl, ho⟩
  have hfin : doSame w0 γ b gl 0 { s with en := updE s.en j (.tap z (all ++ [b']) next) } (.returned (.tuple #[.int .i64 0, .int .i64 0, .int .i64 0])) w2 := by
    refine ⟨rfl, _, LinksAt.turn H2.out ho hl (fun k hk => put_other _ _ _ (by omega)) (fun gm es clock hm => ⟨es, clock, by rw [put_other _ _ _ (by omega)]; exact hm, id⟩) (fun u hu => ?_) (fun i hi => if_neg hi), fun k hk => by rw [put_other _ _ _ (by omega)]; exact HK.out k hk⟩
    show EndAt _ _ u l.kind (updE s.en j (.tap z (all ++ [b']) next) j)
    rw [show updE s.en j (.tap z (all ++ [b']) next) j = .tap z (all ++ [b']) next from if_pos rfl]
    rw [he] at hu
    obtain ⟨k1, gt', gp', ru, ht', hp', zz1, zz8⟩ := hu
    have e1 := HT.out.symm.trans ht'
    cases e1
    exact ⟨k1, gt, gp, ru, by rw [put_other _ _ _ (by omega)]; exact HT.out, put_same _ _ _ _, z1, z8⟩
  have HF := Lib.hid hfin
  clear hfin ho
  go_wp2_with fail
  refine bodyPost_ret (results_tmp3 rfl _ _ _) rfl ?_
  exact HF.out

set_option maxRecDepth 100000 in
set_option maxHeartbeats 4000000 in
theorem do_recv {s : LS} (h : LAt w0 γ b gl s w) (h10 : s.ls.length ≤ 10) (d t k dm pk b' v : Int) {j : Nat} {l : LinkS} (hl : s.ls[j]? = some l) {z : Nat} {all : List Int} {next : Int} (he : s.en j = .tap z all next) (hage : all.length < 1000) (hm0 : mayE s.ls d 34 j = 0) :
    Calls Try.prog 41 #[.pointer (some ⟨gl, 0, none⟩), .int .i64 d, .int .i64 t, .agg #[.int .i64 k, .int .i64 dm, .int .i64 pk, .int .i64 34, .int .i64 j, .int .i64 b', .int .i64 v]] w (doPost w0 γ b gl (recvE all next, recvV z all next, recvL z all next, { s with en := updE s.en j (.tap z all (recvA z all next)) })) := by
  have hj : j < s.ls.length := (List.getElem?_eq_some_iff.1 hl).1
  have h1 := h.box (entO k dm pk 34 j b' v)
  have hk4 := put_same γ (b + 4) w.heap.size (entO k dm pk 34 j b' v)
  have hm := may_any h1 h10 k dm pk 34 j b' v d
  rw [hm0] at hm
  have hrest : ∀ t, (t < b ∨ b + 30 ≤ t) → put γ (b + 4) w.heap.size (entO k dm pk 34 j b' v) t = γ t := fun t ht => put_other _ _ _ (by omega)
  unfold entO at hm hk4 hrest h1
  generalize put γ (b + 4) _ _ = γ1 at *
  have H1 := Lib.hid h1
  clear h h1 hm0
  have HK := Lib.hid hrest
  clear hrest
  go_enter Try.func41, Try.ntmps41
  go_wp2_with fail
  refine hm.mono ?_
  rintro e w1 ⟨rfl, hb⟩
  have h2 := LinksAt.below' H1.out hb
  obtain ⟨u, ⟨g, cap, g2, cap2, c0, c1, q0, q1, q2, q3, cu⟩, hend⟩ := h2.at_ hl
  rw [he] at hend
  obtain ⟨hk1, gt, gp, rfl, ht, hp, z1, z8⟩ := hend
  have t0 := h2.own.cell ht (i := 0) (v := .pointer (some ⟨gp, 0, none⟩)) rfl
  have hta := ta_t (.pointer (some ⟨gt, 0, none⟩))
  have HP := Lib.hid hp
  have HT := Lib.hid ht
  have HQ := Lib.hid hk1
  clear hp ht hk1
  have e0 := h2.own.cell hk4 (i := 0) (v := .int .i64 k) rfl
  have e1 := h2.own.cell hk4 (i := 1) (v := .int .i64 dm) rfl
  have e2 := h2.own.cell hk4 (i := 2) (v := .int .i64 pk) rfl
  have e3 := h2.own.cell hk4 (i := 3) (v := .int .i64 34) rfl
  have e4 := h2.own.cell hk4 (i := 4) (v := .int .i64 j) rfl
  have e5 := h2.own.cell hk4 (i := 5) (v := .int .i64 b') rfl
  have e6 := h2.own.cell hk4 (i := 6) (v := .int .i64 v) rfl
  have hjn : (j : Int) < s.ls.length := by omega
  have H2 := Lib.hid h2
  clear hm hb h2 hk4 q0 q1 q2 q3 c0
  go_wp2_with fail
  have hrc := linkRecv_any H2.out.own.drew (by omega) HT.out HP.out z1 z8 (by omega) (.pointer (some ⟨gl, 0, none⟩))
  unfold rec3 at hrc
  generalize recvV z all next = x1 at *
  generalize recvL z all next = x2 at *
  generalize recvE all next = x3 at *
  generalize recvA z all next = x4 at *
  refine wp_region_pre 10 (fun w' => w'.cell? ⟨gl, 1, none⟩ = some (.slice (some ⟨g2, 0, none⟩) s.ls.length cap2) ∧ w'.cell? ⟨w.heap.size, 4, none⟩ = some (.int .i64 j) ∧ w'.cell? ⟨g2, j, none⟩ = some (.iface 109 (.pointer (some ⟨gt, 0, none⟩)))) (by kernel_rfl) (by kernel_rfl) (fun _ _ _ _ _ h => h) (by refine ⟨?_, ?_, ?_⟩ <;> simpa using by assumption) ?_
  simp only [List.take_succ_cons, List.take_zero, List.drop_succ_cons, List.drop_zero]
  repeat
    refine light_step ?_ (fun w' hS => ?_) ?_
    rotate_left
    · ((try dsimp only at hS); go_simp; try with_reducible rfl)
    simp only [Act.put, List.setIfInBounds_toArray, List.set_cons_zero, List.set_cons_succ]
  refine light_nil ?_
  refine tail_call (by rfl) 59 _ _ rfl enters59 #[.pointer (some ⟨gl, 0, none⟩), .pointer (some ⟨gt, 0, none⟩)] (by rfl) (hrc.mono ?_)
  rintro e w2 ⟨rfl, ho⟩
  refine ⟨_, rfl, no_need (by kernel_rfl), ?_⟩
  simp only [Act.put, List.setIfInBounds_toArray, List.set_cons_zero, List.set_cons_succ]
  repeat
    refine tail_pure (by rfl) ?_ (fun w' => ?_) ?_
    rotate_left
    · (go_simp; try with_reducible rfl)
    simp only [Act.put, List.setIfInBounds_toArray, List.set_cons_zero, List.set_cons_succ]
  refine tail_nil ?_
  all_goals
    have hfin : doPost w0 γ b gl (x3, x1, x2, { s with en := updE s.en j (.tap z all (x4)) }) (.returned (.tuple #[.int .i64 x3, .int .i64 (x1), .int .i64 (x2)])) w2 := by
      refine ⟨rfl, _, LinksAt.turn H2.out ho hl (fun k hk => put_other _ _ _ (by omega)) (fun gm es clock hm => ⟨es, clock, by rw [put_other _ _ _ (by omega)]; exact hm, id⟩) (fun u hu => ?_) (fun i hi => if_neg hi), fun k hk => by rw [put_other _ _ _ (by omega)]; exact HK.out k hk⟩
      show EndAt _ _ u l.kind (updE s.en j (.tap z all (x4)) j)
      rw [show updE s.en j (.tap z all (x4)) j = .tap z all (x4) from if_pos rfl]
      rw [he] at hu
      obtain ⟨k1, gt', gp', ru, ht', hp', zz1, zz8⟩ := hu
      have e1 := HT.out.symm.trans ht'
      cases e1
      exact ⟨k1, gt, gp, ru, put_same _ _ _ _, by rw [put_other _ _ _ (by omega)]; exact HP.out, z1, z8⟩
    have HF := Lib.hid hfin
    clear hfin ho
    go_wp2_with fail
    refine bodyPost_ret (results_tmp3 rfl _ _ _) rfl ?_
    exact HF.out

set_option maxRecDepth 100000 in
set_option maxHeartbeats 4000000 in
theorem do_write {s : LS} (h : LAt w0 γ b gl s w) (h10 : s.ls.length ≤ 10) (d t k dm pk op b' v : Int) {j : Nat} {l : LinkS} (hl : s.ls[j]? = some l) {c : CS} (he : s.en j = .cell c) (hq : c.q < 999) (hlo : 27 ≤ op) (hhi : op ≤ 29) (hm0 : mayE s.ls d op j = 0) :
    Calls Try.prog 41 #[.pointer (some ⟨gl, 0, none⟩), .int .i64 d, .int .i64 t, .agg #[.int .i64 k, .int .i64 dm, .int .i64 pk, .int .i64 op, .int .i64 j, .int .i64 b', .int .i64 v]] w (doSame w0 γ b gl (c.wE op t b') { s with en := updE s.en j (.cell (c.wS op t b' v)) }) := by
  have hj : j < s.ls.length := (List.getElem?_eq_some_iff.1 hl).1
  have h1 := h.box (entO k dm pk op j b' v)
  have hk4 := put_same γ (b + 4) w.heap.size (entO k dm pk op j b' v)
  have hm := may_any h1 h10 k dm pk op j b' v d
  rw [hm0] at hm
  have hrest : ∀ t, (t < b ∨ b + 30 ≤ t) → put γ (b + 4) w.heap.size (entO k dm pk op j b' v) t = γ t := fun t ht => put_other _ _ _ (by omega)
  unfold entO at hm hk4 hrest h1
  generalize put γ (b + 4) _ _ = γ1 at *
  have H1 := Lib.hid h1
  clear h h1 hm0
  have HK := Lib.hid hrest
  clear hrest
  have b33 : (op == 33) = false := by rw [beq_eq_false_iff_ne]; omega
  have b34 : (op == 34) = false := by rw [beq_eq_false_iff_ne]; omega
  have b30 : (op == 30) = false := by rw [beq_eq_false_iff_ne]; omega
  have b31 : (op == 31) = false := by rw [beq_eq_false_iff_ne]; omega
  have b32 : (op == 32) = false := by rw [beq_eq_false_iff_ne]; omega
  go_enter Try.func41, Try.ntmps41
  go_wp2_with fail
  refine hm.mono ?_
  rintro e w1 ⟨rfl, hb⟩
  have h2 := LinksAt.below' H1.out hb
  obtain ⟨u, ⟨g, cap, g2, cap2, c0, c1, q0, q1, q2, q3, cu⟩, hend⟩ := h2.at_ hl
  rw [he] at hend
  obtain ⟨hk1, gc, rfl, ht, hok⟩ := hend
  have hta := ta_c (.pointer (some ⟨gc, 0, none⟩))
  have HT := Lib.hid ht
  have HQ := Lib.hid hk1
  clear ht hk1
  have e0 := h2.own.cell hk4 (i := 0) (v := .int .i64 k) rfl
  have e1 := h2.own.cell hk4 (i := 1) (v := .int .i64 dm) rfl
  have e2 := h2.own.cell hk4 (i := 2) (v := .int .i64 pk) rfl
  have e3 := h2.own.cell hk4 (i := 3) (v := .int .i64 op) rfl
  have e4 := h2.own.cell hk4 (i := 4) (v := .int .i64 j) rfl
  have e5 := h2.own.cell hk4 (i := 5) (v := .int .i64 b') rfl
  have e6 := h2.own.cell hk4 (i := 6) (v := .int .i64 v) rfl
  have hjn : (j : Int) < s.ls.length := by omega
  have H2 := Lib.hid h2
  clear hm hb h2 hk4 q0 q1 q2 q3 c0
  go_wp2_with fail
  go_still_tail 12, (by kernel_rfl)
  change wpList _ _ _ _ _ (World.drew _)
  go_wp2_with fail
  have hwr := linkWrite_any H2.out.own.drew HT.out hok (.pointer (some ⟨gl, 0, none⟩)) t k dm pk op j b' v
  refine hwr.mono ?_
  rintro e w2 ⟨rfl, ho⟩
  clear hwr
  have hfin : doSame w0 γ b gl (c.wE op t b') { s with en := updE s.en j (.cell (c.wS op t b' v)) } (.returned (.tuple #[.int .i64 (c.wE op t b'), .int .i64 0, .int .i64 0])) w2 := by
    refine ⟨rfl, _, LinksAt.turn H2.out ho hl (fun k hk => put_other _ _ _ (by omega)) (fun gm es clock hm => ⟨es, clock, by rw [put_other _ _ _ (by omega)]; exact hm, id⟩) (fun u hu => ?_) (fun i hi => if_neg hi), fun k hk => by rw [put_other _ _ _ (by omega)]; exact HK.out k hk⟩
    show EndAt _ _ u l.kind (updE s.en j (.cell (c.wS op t b' v)) j)
    rw [show updE s.en j (.cell (c.wS op t b' v)) j = .cell (c.wS op t b' v) from if_pos rfl]
    rw [he] at hu
    obtain ⟨k1, gc', ru, ht', hok'⟩ := hu
    have e1 := HT.out.symm.trans ht'
    cases e1
    exact ⟨k1, gc, ru, put_same _ _ _ _, hok.wS op t b' v hq⟩
  rw [ans_eq]
  generalize c.wE op t b' = x1 at *
  generalize c.wS op t b' v = x2 at *
  have HF := Lib.hid hfin
  clear hfin ho
  go_wp2_with fail
  refine bodyPost_ret (results_tmp3 rfl _ _ _) rfl ?_
  exact HF.out

set_option maxRecDepth 100000 in
set_option maxHeartbeats 4000000 in
theorem do_read {s : LS} (h : LAt w0 γ b gl s w) (h10 : s.ls.length ≤ 10) (d t k dm pk op b' v : Int) {j : Nat} {l : LinkS} (hl : s.ls[j]? = some l) {c : CS} (he : s.en j = .cell c) (hlo : 30 ≤ op) (hhi : op ≤ 32) (hd : Fits d) (htt : Fits t) {x1 x2 : Int} {x3 : Int → Int → Option (Int × Int)} (hR : rdR c s.f d t op j b' = (x1, x2, x3)) (hm0 : mayE s.ls d op j = 0) :
    Calls Try.prog 41 #[.pointer (some ⟨gl, 0, none⟩), .int .i64 d, .int .i64 t, .agg #[.int .i64 k, .int .i64 dm, .int .i64 pk, .int .i64 op, .int .i64 j, .int .i64 b', .int .i64 v]] w (doPost w0 γ b gl (x1, x2, 0, { s with f := x3 })) := by
  have hj : j < s.ls.length := (List.getElem?_eq_some_iff.1 hl).1
  have h1 := h.box (entO k dm pk op j b' v)
  have hk4 := put_same γ (b + 4) w.heap.size (entO k dm pk op j b' v)
  have hm := may_any h1 h10 k dm pk op j b' v d
  rw [hm0] at hm
  have hrest : ∀ t, (t < b ∨ b + 30 ≤ t) → put γ (b + 4) w.heap.size (entO k dm pk op j b' v) t = γ t := fun t ht => put_other _ _ _ (by omega)
  unfold entO at hm hk4 hrest h1
  generalize put γ (b + 4) _ _ = γ1 at *
  have H1 := Lib.hid h1
  clear h h1 hm0
  have HK := Lib.hid hrest
  clear hrest
  have b33 : (op == 33) = false := by rw [beq_eq_false_iff_ne]; omega
  have b34 : (op == 34) = false := by rw [beq_eq_false_iff_ne]; omega
  have HR := Lib.hid hR
  clear hR
  have hsw : (op == 30) = true ∨ (op == 30) = false ∧ (op == 31) = true ∨ (op == 30) = false ∧ (op == 31) = false ∧ (op == 32) = true := by
    by_cases h0 : op = 30
    · exact .inl (by simpa using h0)
    · by_cases h1 : op = 31
      · exact .inr (.inl ⟨by simpa using h0, by simpa using h1⟩)
      · exact .inr (.inr ⟨by simpa using h0, by simpa using h1, by rw [beq_iff_eq]; omega⟩)
  rcases hsw with b30 | ⟨b30, b31⟩ | ⟨b30, b31, b32⟩
  all_goals
    go_enter Try.func41, Try.ntmps41
    go_wp2_with fail
    refine hm.mono ?_
    rintro e w1 ⟨rfl, hb⟩
    have h2 := LinksAt.below' H1.out hb
    obtain ⟨u, ⟨g, cap, g2, cap2, c0, c1, q0, q1, q2, q3, cu⟩, hend⟩ := h2.at_ hl
    rw [he] at hend
    obtain ⟨hk1, gc, rfl, ht, hok⟩ := hend
    have hta := ta_c (.pointer (some ⟨gc, 0, none⟩))
    have HT := Lib.hid ht
    have HQ := Lib.hid hk1
    clear ht hk1
    have e0 := h2.own.cell hk4 (i := 0) (v := .int .i64 k) rfl
    have e1 := h2.own.cell hk4 (i := 1) (v := .int .i64 dm) rfl
    have e2 := h2.own.cell hk4 (i := 2) (v := .int .i64 pk) rfl
    have e3 := h2.own.cell hk4 (i := 3) (v := .int .i64 op) rfl
    have e4 := h2.own.cell hk4 (i := 4) (v := .int .i64 j) rfl
    have e5 := h2.own.cell hk4 (i := 5) (v := .int .i64 b') rfl
    have e6 := h2.own.cell hk4 (i := 6) (v := .int .i64 v) rfl
    have hjn : (j : Int) < s.ls.length := by omega
    have H2 := Lib.hid h2
    clear hm hb h2 hk4 q0 q1 q2 q3 c0
    go_wp2_with fail
    obtain ⟨_, lv, ev, gm, es, clock, vs, r0, r1, r2, r3, r4, r5⟩ := H2.out
    have hrd := read_any ⟨H2.out.own.drew, r0, r1, r2, HT.out, hok, by omega⟩ hd htt k dm pk op j b' v ⟨hlo, hhi⟩
    have HM : ∀ gm2 es2 clock2, γ1 (b + 1) = some (gm2, .map es2 clock2) → gm = gm2 := fun gm2 es2 clock2 h => by rw [r1] at h; cases h; rfl
    clear r0 r1 r2 r3 r4 r5
    rw [HR.out] at hrd
    dsimp only at hrd
    refine wp_region_pre 14 (fun w' => w'.cell? ⟨gl, 1, none⟩ = some (.slice (some ⟨g2, 0, none⟩) s.ls.length cap2) ∧ w'.cell? ⟨g2, j, none⟩ = some (.iface 46 (.pointer (some ⟨gc, 0, none⟩))) ∧ w'.cell? ⟨w.heap.size, 0, none⟩ = some (.int .i64 k) ∧ w'.cell? ⟨w.heap.size, 1, none⟩ = some (.int .i64 dm) ∧ w'.cell? ⟨w.heap.size, 2, none⟩ = some (.int .i64 pk) ∧ w'.cell? ⟨w.heap.size, 3, none⟩ = some (.int .i64 op) ∧ w'.cell? ⟨w.heap.size, 4, none⟩ = some (.int .i64 j) ∧ w'.cell? ⟨w.heap.size, 5, none⟩ = some (.int .i64 b') ∧ w'.cell? ⟨w.heap.size, 6, none⟩ = some (.int .i64 v)) (by kernel_rfl) (by kernel_rfl) (fun _ _ _ _ _ h => h) (by refine ⟨?_, ?_, ?_, ?_, ?_, ?_, ?_, ?_, ?_⟩ <;> simpa using by assumption) ?_
    simp only [List.take_succ_cons, List.take_zero, List.drop_succ_cons, List.drop_zero]
    repeat
      refine light_step ?_ (fun w' hS => ?_) ?_
      rotate_left
      · ((try dsimp only at hS); go_simp; try with_reducible rfl)
      simp only [Act.put, List.setIfInBounds_toArray, List.set_cons_zero, List.set_cons_succ]
    refine light_nil ?_
    refine tail_call (by rfl) 60 _ _ rfl enters60 #[.pointer (some ⟨gl, 0, none⟩), .agg #[.int .i64 d, .int .i64 t], .agg #[.int .i64 k, .int .i64 dm, .int .i64 pk, .int .i64 op, .int .i64 j, .int .i64 b', .int .i64 v], .pointer (some ⟨gc, 0, none⟩)] (by rfl) (hrd.mono ?_)
    rintro e w2 ⟨rfl, es', clock', γ', ho, hm', hf', hkk⟩
    refine ⟨_, rfl, no_need (by kernel_rfl), ?_⟩
    simp only [Act.put, List.setIfInBounds_toArray, List.set_cons_zero, List.set_cons_succ]
    repeat
      refine tail_pure (by rfl) ?_ (fun w' => ?_) ?_
      rotate_left
      · (go_simp; try with_reducible rfl)
      simp only [Act.put, List.setIfInBounds_toArray, List.set_cons_zero, List.set_cons_succ]
    refine tail_nil ?_
    all_goals
      have hfin : doPost w0 γ b gl (x1, x2, 0, { s with f := x3 }) (.returned (.tuple #[.int .i64 x1, .int .i64 x2, .int .i64 0])) w2 := by
        refine ⟨rfl, _, LinksAt.turn H2.out ho hl (fun k hk => hkk k (by omega) (by omega) (by omega) (by omega)) (fun gm2 es2 clock2 hm2 => ?_) (fun u hu => hu.keep (hkk _ (by omega) (by omega) (by omega) (by omega)) (hkk _ (by omega) (by omega) (by omega) (by omega))) (fun i hi => rfl), fun k hk => by rw [hkk k (by omega) (by omega) (by omega) (by omega)]; exact HK.out k hk⟩
        exact ⟨es', clock', HM gm2 es2 clock2 hm2 ▸ hm', fun _ => hf'⟩
      have HF := Lib.hid hfin
      clear hfin ho hm' hf' hkk
      go_wp2_with fail
      refine bodyPost_ret (results_tmp3 rfl _ _ _) rfl ?_
      exact HF.out

end
end Go.Proofs.Ytniiefcbiapieaa