/- A cell is read by a link. -/
import Derived.Test.YtniiefcbiapieaaMay
import Derived.RegionTactic
namespace Go.Proofs.Ytniiefcbiapieaa
open Go.RowKit Go.ChangeMaps

def whoO (d t : Int) : Obj := .cells #[.int .i64 d, .int .i64 t] 117
def rdO (l s : Int) : Obj := .cells #[.int .i64 l, .int .i64 s] 129

structure ReadAt (w0 : World) (γ : Nat → Option (Nat × Obj)) (b gl gm tc g clock : Nat) (lv ev : Value) (es : Array MapEntry) (f : Int → Int → Option (Int × Int)) (c : CS) (w : World) : Prop where
  own : Own w0 w γ
  top : γ b = some (gl, .cells #[lv, ev, .map (some gm)] 108 (0, 0))
  map : γ (b + 1) = some (gm, .map es clock)
  fn : MapFn es.toList f
  cell : γ tc = some (g, cellO c)
  ok : c.Ok
  far : b + 10 ≤ tc

def readPost (w0 : World) (γ : Nat → Option (Nat × Obj)) (b gm : Nat) (f : Int → Int → Option (Int × Int)) (x n : Int) (e : Ending) (w' : World) : Prop :=
  e = .returned (.tuple #[.int .i64 x, .int .i64 n]) ∧ ∃ es clock γ', Own w0 w' γ' ∧ γ' (b + 1) = some (gm, .map es clock) ∧ MapFn es.toList f ∧ ∀ k, k ≠ b + 1 → k ≠ b + 5 → k ≠ b + 6 → k ≠ b + 7 → γ' k = γ k

/-- With the two arguments that lie in boxes. -/
structure RD (w0 : World) (γ0 γ : Nat → Option (Nat × Obj)) (b gl gm tc g clock : Nat) (lv ev : Value) (es : Array MapEntry) (f : Int → Int → Option (Int × Int)) (c : CS) (d t k dm pk op a b' v : Int) (g5 : Nat) (w : World) : Prop where
  r : ReadAt w0 γ b gl gm tc g clock lv ev es f c w
  k5 : γ (b + 5) = some (g5, whoO d t)
  k6 : γ (b + 6) = some (g5 + 1, entO k dm pk op a b' v)
  rest : ∀ k, k ≠ b + 1 → k ≠ b + 5 → k ≠ b + 6 → k ≠ b + 7 → γ k = γ0 k

section
variable {w0 w : World} {γ γ0 : Nat → Option (Nat × Obj)} {b gl gm tc g clock : Nat} {lv ev : Value} {es : Array MapEntry} {f : Int → Int → Option (Int × Int)} {c : CS} {d t k dm pk op a b' v : Int} {g5 : Nat}

theorem ReadAt.start (h : ReadAt w0 γ b gl gm tc g clock lv ev es f c w) : RD w0 γ (put (put γ (b + 5) w.heap.size (whoO d t)) (b + 6) (w.heap.size + 1) (entO k dm pk op a b' v)) b gl gm tc g clock lv ev es f c d t k dm pk op a b' v w.heap.size ((w.alloc (whoO d t)).alloc (entO k dm pk op a b' v)) := by
  have ho := (h.own.new (b + 5) (whoO d t)).new (b + 6) (entO k dm pk op a b' v)
  have e2 : (w.alloc (whoO d t)).heap.size = w.heap.size + 1 := by simp
  rw [e2] at ho
  have := h.far
  refine ⟨⟨ho, ?_, ?_, h.fn, ?_, h.ok, h.far⟩, ?_, put_same _ _ _ _, fun k _ h5 h6 _ => by rw [put_other _ _ _ h6, put_other _ _ _ h5]⟩
  · rw [put_other _ _ _ (by omega), put_other _ _ _ (by omega)]; exact h.top
  · rw [put_other _ _ _ (by omega), put_other _ _ _ (by omega)]; exact h.map
  · rw [put_other _ _ _ (by omega), put_other _ _ _ (by omega)]; exact h.cell
  · rw [put_other _ _ _ (by omega), put_same]

theorem RD.drew (h : RD w0 γ0 γ b gl gm tc g clock lv ev es f c d t k dm pk op a b' v g5 w) : RD w0 γ0 γ b gl gm tc g clock lv ev es f c d t k dm pk op a b' v g5 w.drew :=
  ⟨⟨h.r.own.drew, h.r.top, h.r.map, h.r.fn, h.r.cell, h.r.ok, h.r.far⟩, h.k5, h.k6, h.rest⟩

/-- What was read of the map lies in a block of its own. -/
theorem RD.new (h : RD w0 γ0 γ b gl gm tc g clock lv ev es f c d t k dm pk op a b' v g5 w) (x : Obj) : RD w0 γ0 (put γ (b + 7) w.heap.size x) b gl gm tc g clock lv ev es f c d t k dm pk op a b' v g5 (w.alloc x) := by
  have := h.r.far
  refine ⟨⟨h.r.own.new _ x, ?_, ?_, h.r.fn, ?_, h.r.ok, h.r.far⟩, ?_, ?_, fun k h1 h5 h6 h7 => by rw [put_other _ _ _ h7]; exact h.rest k h1 h5 h6 h7⟩
  · rw [put_other _ _ _ (by omega)]; exact h.r.top
  · rw [put_other _ _ _ (by omega)]; exact h.r.map
  · rw [put_other _ _ _ (by omega)]; exact h.r.cell
  · rw [put_other _ _ _ (by omega)]; exact h.k5
  · rw [put_other _ _ _ (by omega)]; exact h.k6

theorem RD.map' (h : RD w0 γ0 γ b gl gm tc g clock lv ev es f c d t k dm pk op a b' v g5 w) {es' : Array MapEntry} {clock' : Nat} {f' : Int → Int → Option (Int × Int)} (hf : MapFn es'.toList f') :
    RD w0 γ0 (put γ (b + 1) gm (.map es' clock')) b gl gm tc g clock' lv ev es' f' c d t k dm pk op a b' v g5 (setBlock w gm (.map es' clock')) := by
  have := h.r.far
  refine ⟨⟨h.r.own.block h.r.map _, ?_, put_same _ _ _ _, hf, ?_, h.r.ok, h.r.far⟩, ?_, ?_, fun k h1 h5 h6 h7 => by rw [put_other _ _ _ h1]; exact h.rest k h1 h5 h6 h7⟩
  · rw [put_other _ _ _ (by omega)]; exact h.r.top
  · rw [put_other _ _ _ (by omega)]; exact h.r.cell
  · rw [put_other _ _ _ (by omega)]; exact h.k5
  · rw [put_other _ _ _ (by omega)]; exact h.k6

theorem RD.cells (h : RD w0 γ0 γ b gl gm tc g clock lv ev es f c d t k dm pk op a b' v g5 w) : w.cell? ⟨gl, 2, none⟩ = some (.map (some gm)) ∧ w.cell? ⟨g5, 0, none⟩ = some (.int .i64 d) ∧ w.cell? ⟨g5, 1, none⟩ = some (.int .i64 t) ∧
    w.cell? ⟨g5 + 1, 3, none⟩ = some (.int .i64 op) ∧ w.cell? ⟨g5 + 1, 4, none⟩ = some (.int .i64 a) ∧ w.cell? ⟨g5 + 1, 5, none⟩ = some (.int .i64 b') ∧ gl < w.heap.size ∧ g5 < w.heap.size ∧ g5 + 1 < w.heap.size ∧ g < w.heap.size :=
  ⟨h.r.own.cell h.r.top (i := 2) rfl, h.r.own.cell h.k5 (i := 0) rfl, h.r.own.cell h.k5 (i := 1) rfl, h.r.own.cell h.k6 (i := 3) rfl, h.r.own.cell h.k6 (i := 4) rfl, h.r.own.cell h.k6 (i := 5) rfl, h.r.own.lt h.r.top, h.r.own.lt h.k5, h.r.own.lt h.k6, h.r.own.lt h.r.cell⟩

theorem RD.look (h : RD w0 γ0 γ b gl gm tc g clock lv ev es f c d t k dm pk op a b' v g5 w) (h1 : Fits d) (h2 : Fits t) : (Instr.lookup 105 (.map (some gm)) (.agg #[.int .i64 d, .int .i64 t]) true).run Try.prog w = .ok (.tuple #[found (f d t), .bool (f d t).isSome]) w :=
  run_lookup105 (h.r.own.own _ _ _ h.r.map).2 h.r.fn h1 h2
theorem RD.del (h : RD w0 γ0 γ b gl gm tc g clock lv ev es f c d t k dm pk op a b' v g5 w) (h1 : Fits d) (h2 : Fits t) :
    ∃ es', (Builtin.delete_ #[105, 117] 0 #[.map (some gm), .agg #[.int .i64 d, .int .i64 t]]).run Try.prog w = .ok (.tuple #[]) (setBlock w gm (.map es' clock)) ∧
      RD w0 γ0 (put γ (b + 1) gm (.map es' clock)) b gl gm tc g clock lv ev es' (fnDel f d t) c d t k dm pk op a b' v g5 (setBlock w gm (.map es' clock)) := by
  obtain ⟨es', hr, hf⟩ := run_delete105 (h.r.own.own _ _ _ h.r.map).2 h.r.fn h1 h2 0
  exact ⟨es', hr, h.map' hf⟩
theorem RD.upd (h : RD w0 γ0 γ b gl gm tc g clock lv ev es f c d t k dm pk op a b' v g5 w) (h1 : Fits d) (h2 : Fits t) (hn : f d t = none) (l s : Int) :
    ∃ es' clock', (Instr.mapUpdate 105 (.map (some gm)) (.agg #[.int .i64 d, .int .i64 t]) (.agg #[.int .i64 l, .int .i64 s])).run Try.prog w = .ok () (setBlock w gm (.map es' clock')) ∧
      RD w0 γ0 (put γ (b + 1) gm (.map es' clock')) b gl gm tc g clock' lv ev es' (fnPut f d t l s) c d t k dm pk op a b' v g5 (setBlock w gm (.map es' clock')) := by
  obtain ⟨es', clock', hr, hf⟩ := run_update105 (h.r.own.own _ _ _ h.r.map).2 h.r.fn h1 h2 hn l s
  exact ⟨es', clock', hr, h.map' hf⟩
theorem RD.post (h : RD w0 γ0 γ b gl gm tc g clock lv ev es f c d t k dm pk op a b' v g5 w) (x n : Int) : readPost w0 γ0 b gm f x n (.returned (.tuple #[.int .i64 x, .int .i64 n])) w :=
  ⟨rfl, es, clock, γ, h.r.own, h.r.map, h.r.fn, h.rest⟩
theorem fnDel_none (f : Int → Int → Option (Int × Int)) (d t : Int) : fnDel f d t d t = none := by unfold fnDel; simp

set_option maxRecDepth 100000 in
set_option maxHeartbeats 4000000 in
theorem read_begin_ok (h : ReadAt w0 γ b gl gm tc g clock lv ev es f c w) {d t : Int} (h1 : Fits d) (h2 : Fits t) (k dm pk a b' v : Int) (ht : c.t = 0) (q : Int) (hq : (c.q : Int) = q) :
    Calls Try.prog 60 #[.pointer (some ⟨gl, 0, none⟩), .agg #[.int .i64 d, .int .i64 t], .agg #[.int .i64 k, .int .i64 dm, .int .i64 pk, .int .i64 30, .int .i64 a, .int .i64 b', .int .i64 v], .pointer (some ⟨g, 0, none⟩)] w
      (readPost w0 γ b gm (fnPut (fnDel f d t) d t a q) 0 q) := by
  have hR : RD w0 γ _ b gl gm tc g clock lv ev es f c d t k dm pk 30 a b' v w.heap.size _ := h.start
  have HE : Hid (c.startN = q ∧ c.startE = 0) := ⟨by rw [← hq]; simp [CS.startN, ht], by simp [CS.startE, ht]⟩
  clear ht hq
  obtain ⟨rl, rs, hfd⟩ : ∃ x y, found (f d t) = .agg #[.int .i64 x, .int .i64 y] := by
    cases f d t with
    | none => exact ⟨0, 0, rfl⟩
    | some x => exact ⟨x.1, x.2, rfl⟩
  generalize hisx : (f d t).isSome = isx
  have Hisx := Lib.hid hisx
  clear hisx
  clear h
  unfold whoO entO at hR
  generalize put (put γ _ _ _) _ _ _ = γ1 at *
  have HR := Lib.hid hR
  clear hR
  go_enter Try.func60, Try.ntmps60
  go_wp2_with fail
  generalize (w.alloc (Obj.cells #[.int .i64 d, .int .i64 t] 117)).alloc _ = W at *
  generalize w.heap.size = g5 at *
  obtain ⟨c2, c50, c51, c63, c64, c65, ll, l5, l6, lg⟩ := HR.out.cells
  have hlk1 := HR.out.drew.look h1 h2
  have hlk2 := ((HR.out.new (.cells #[.int .i64 0, .int .i64 0] 129)).drew).look h1 h2
  rw [hfd] at hlk1 hlk2
  go_region
  all_goals
    clear hlk1 hlk2
    have H2 := Lib.hid (HR.out.new (rdO rl rs)).drew
    have hs7 := HR.out.r.own.new (b + 7) (rdO rl rs)
    have l7 : W.heap.size < (W.alloc (rdO rl rs)).heap.size := by simp
    have c70 := hs7.drew.cell (put_same _ _ _ _) (i := 0) rfl
    have c71 := hs7.drew.cell (put_same _ _ _ _) (i := 1) rfl
    have Hk7 := Lib.hid (put_same γ1 (b + 7) W.heap.size (rdO rl rs))
    unfold rdO at H2 Hk7 l7 c70 c71
    clear HR c2 c50 c51 c63 c64 c65 ll l5 l6 lg hs7
    obtain ⟨c2, c50, c51, c63, c64, c65, ll, l5, l6, lg⟩ := H2.out.cells
    generalize put γ1 (b + 7) _ _ = γ2 at *
    generalize W.heap.size = g7 at *
    generalize W.alloc _ = W2 at *
    go_wp2_with fail
    obtain ⟨es2, hdel, hR3⟩ := H2.out.drew.del h1 h2
    have H3 := Lib.hid hR3
    clear hR3
    go_region
    all_goals
      generalize put γ2 _ _ _ = γ3 at *
      generalize setBlock _ _ _ = W3 at *
      clear c2 c50 c51 c63 c64 c65 ll l5 l6 lg hdel c70 c71
      obtain ⟨c2, c50, c51, c63, c64, c65, ll, l5, l6, lg⟩ := H3.out.cells
      go_wp2_with fail
      refine (cellStart_any H3.out.r.own H3.out.r.cell H3.out.r.ok).mono ?_
      rintro e w4 ⟨rfl, rfl⟩
      rw [ans2_eq, HE.out.1, HE.out.2]
      go_wp2_with fail
      obtain ⟨es4, clock4, hup, hR4⟩ := H3.out.drew.upd h1 h2 (fnDel_none f d t) a q
      have H4 := Lib.hid hR4
      clear hR4
      go_region
      all_goals
        generalize put γ3 _ _ _ = γ4 at *
        generalize setBlock _ _ _ = W4 at *
        clear c2 c50 c51 c63 c64 c65 ll l5 l6 lg hup
        go_wp2_with fail
        go_ret2
        exact H4.out.post _ _

set_option maxRecDepth 100000 in
set_option maxHeartbeats 4000000 in
theorem read_begin_torn (h : ReadAt w0 γ b gl gm tc g clock lv ev es f c w) {d t : Int} (h1 : Fits d) (h2 : Fits t) (k dm pk a b' v : Int) (ht : c.t ≠ 0) :
    Calls Try.prog 60 #[.pointer (some ⟨gl, 0, none⟩), .agg #[.int .i64 d, .int .i64 t], .agg #[.int .i64 k, .int .i64 dm, .int .i64 pk, .int .i64 30, .int .i64 a, .int .i64 b', .int .i64 v], .pointer (some ⟨g, 0, none⟩)] w
      (readPost w0 γ b gm (fnDel f d t) 17 0) := by
  have hR : RD w0 γ _ b gl gm tc g clock lv ev es f c d t k dm pk 30 a b' v w.heap.size _ := h.start
  have HE : Hid (c.startN = 0 ∧ c.startE = 17) := ⟨by simp [CS.startN, ht], by simp [CS.startE, ht]⟩
  clear ht
  obtain ⟨rl, rs, hfd⟩ : ∃ x y, found (f d t) = .agg #[.int .i64 x, .int .i64 y] := by
    cases f d t with
    | none => exact ⟨0, 0, rfl⟩
    | some x => exact ⟨x.1, x.2, rfl⟩
  generalize hisx : (f d t).isSome = isx
  have Hisx := Lib.hid hisx
  clear hisx
  clear h
  unfold whoO entO at hR
  generalize put (put γ _ _ _) _ _ _ = γ1 at *
  have HR := Lib.hid hR
  clear hR
  go_enter Try.func60, Try.ntmps60
  go_wp2_with fail
  generalize (w.alloc (Obj.cells #[.int .i64 d, .int .i64 t] 117)).alloc _ = W at *
  generalize w.heap.size = g5 at *
  obtain ⟨c2, c50, c51, c63, c64, c65, ll, l5, l6, lg⟩ := HR.out.cells
  have hlk1 := HR.out.drew.look h1 h2
  have hlk2 := ((HR.out.new (.cells #[.int .i64 0, .int .i64 0] 129)).drew).look h1 h2
  rw [hfd] at hlk1 hlk2
  go_region
  all_goals
    clear hlk1 hlk2
    have H2 := Lib.hid (HR.out.new (rdO rl rs)).drew
    have hs7 := HR.out.r.own.new (b + 7) (rdO rl rs)
    have l7 : W.heap.size < (W.alloc (rdO rl rs)).heap.size := by simp
    have c70 := hs7.drew.cell (put_same _ _ _ _) (i := 0) rfl
    have c71 := hs7.drew.cell (put_same _ _ _ _) (i := 1) rfl
    have Hk7 := Lib.hid (put_same γ1 (b + 7) W.heap.size (rdO rl rs))
    unfold rdO at H2 Hk7 l7 c70 c71
    clear HR c2 c50 c51 c63 c64 c65 ll l5 l6 lg hs7
    obtain ⟨c2, c50, c51, c63, c64, c65, ll, l5, l6, lg⟩ := H2.out.cells
    generalize put γ1 (b + 7) _ _ = γ2 at *
    generalize W.heap.size = g7 at *
    generalize W.alloc _ = W2 at *
    go_wp2_with fail
    obtain ⟨es2, hdel, hR3⟩ := H2.out.drew.del h1 h2
    have H3 := Lib.hid hR3
    clear hR3
    go_region
    all_goals
      generalize put γ2 _ _ _ = γ3 at *
      generalize setBlock _ _ _ = W3 at *
      clear c2 c50 c51 c63 c64 c65 ll l5 l6 lg hdel c70 c71
      obtain ⟨c2, c50, c51, c63, c64, c65, ll, l5, l6, lg⟩ := H3.out.cells
      go_wp2_with fail
      refine (cellStart_any H3.out.r.own H3.out.r.cell H3.out.r.ok).mono ?_
      rintro e w4 ⟨rfl, rfl⟩
      rw [ans2_eq, HE.out.1, HE.out.2]
      go_wp2_with fail
      go_ret2
      exact H3.out.post _ _

set_option maxRecDepth 100000 in
set_option maxHeartbeats 4000000 in
theorem read_none (h : ReadAt w0 γ b gl gm tc g clock lv ev es f c w) {d t : Int} (h1 : Fits d) (h2 : Fits t) (k dm pk op a b' v : Int) (hop : op ≠ 30) (hfn : f d t = none) :
    Calls Try.prog 60 #[.pointer (some ⟨gl, 0, none⟩), .agg #[.int .i64 d, .int .i64 t], .agg #[.int .i64 k, .int .i64 dm, .int .i64 pk, .int .i64 op, .int .i64 a, .int .i64 b', .int .i64 v], .pointer (some ⟨g, 0, none⟩)] w
      (readPost w0 γ b gm f 11 0) := by
  have hR : RD w0 γ _ b gl gm tc g clock lv ev es f c d t k dm pk op a b' v w.heap.size _ := h.start
  have hfd := Lib.hid hfn
  clear hfn
  have b30 : (op == 30) = false := by simpa using hop
  clear hop
  clear h
  unfold whoO entO at hR
  generalize put (put γ _ _ _) _ _ _ = γ1 at *
  have HR := Lib.hid hR
  clear hR
  go_enter Try.func60, Try.ntmps60
  go_wp2_with fail
  generalize (w.alloc (Obj.cells #[.int .i64 d, .int .i64 t] 117)).alloc _ = W at *
  generalize w.heap.size = g5 at *
  obtain ⟨c2, c50, c51, c63, c64, c65, ll, l5, l6, lg⟩ := HR.out.cells
  have hlk1 := HR.out.drew.look h1 h2
  have hlk2 := ((HR.out.new (.cells #[.int .i64 0, .int .i64 0] 129)).drew).look h1 h2
  rw [hfd.out] at hlk1 hlk2
  simp only [found, readV, Option.isSome] at hlk1 hlk2
  go_region
  all_goals
    clear hlk1 hlk2
    have H2 := Lib.hid (HR.out.new (rdO 0 0)).drew
    have hs7 := HR.out.r.own.new (b + 7) (rdO 0 0)
    have l7 : W.heap.size < (W.alloc (rdO 0 0)).heap.size := by simp
    have c70 := hs7.drew.cell (put_same _ _ _ _) (i := 0) rfl
    have c71 := hs7.drew.cell (put_same _ _ _ _) (i := 1) rfl
    have Hk7 := Lib.hid (put_same γ1 (b + 7) W.heap.size (rdO 0 0))
    unfold rdO at H2 Hk7 l7 c70 c71
    clear HR c2 c50 c51 c63 c64 c65 ll l5 l6 lg hs7
    obtain ⟨c2, c50, c51, c63, c64, c65, ll, l5, l6, lg⟩ := H2.out.cells
    generalize put γ1 (b + 7) _ _ = γ2 at *
    generalize W.heap.size = g7 at *
    generalize W.alloc _ = W2 at *
    go_wp2_with fail
    go_ret2
    exact H2.out.post _ _

set_option maxRecDepth 100000 in
set_option maxHeartbeats 4000000 in
theorem read_other (h : ReadAt w0 γ b gl gm tc g clock lv ev es f c w) {d t : Int} (h1 : Fits d) (h2 : Fits t) (k dm pk op a b' v : Int) (hop : op ≠ 30) (l s : Int) (hfn : f d t = some (l, s)) (hla : l ≠ a) :
    Calls Try.prog 60 #[.pointer (some ⟨gl, 0, none⟩), .agg #[.int .i64 d, .int .i64 t], .agg #[.int .i64 k, .int .i64 dm, .int .i64 pk, .int .i64 op, .int .i64 a, .int .i64 b', .int .i64 v], .pointer (some ⟨g, 0, none⟩)] w
      (readPost w0 γ b gm f 11 0) := by
  have hR : RD w0 γ _ b gl gm tc g clock lv ev es f c d t k dm pk op a b' v w.heap.size _ := h.start
  have hfd := Lib.hid hfn
  clear hfn
  have b30 : (op == 30) = false := by simpa using hop
  clear hop
  have bla : (l != a) = true := by simpa using hla
  have bla2 : (l == a) = false := by simpa using hla
  clear hla
  clear h
  unfold whoO entO at hR
  generalize put (put γ _ _ _) _ _ _ = γ1 at *
  have HR := Lib.hid hR
  clear hR
  go_enter Try.func60, Try.ntmps60
  go_wp2_with fail
  generalize (w.alloc (Obj.cells #[.int .i64 d, .int .i64 t] 117)).alloc _ = W at *
  generalize w.heap.size = g5 at *
  obtain ⟨c2, c50, c51, c63, c64, c65, ll, l5, l6, lg⟩ := HR.out.cells
  have hlk1 := HR.out.drew.look h1 h2
  have hlk2 := ((HR.out.new (.cells #[.int .i64 0, .int .i64 0] 129)).drew).look h1 h2
  rw [hfd.out] at hlk1 hlk2
  simp only [found, readV, Option.isSome] at hlk1 hlk2
  go_region
  all_goals
    clear hlk1 hlk2
    have H2 := Lib.hid (HR.out.new (rdO l s)).drew
    have hs7 := HR.out.r.own.new (b + 7) (rdO l s)
    have l7 : W.heap.size < (W.alloc (rdO l s)).heap.size := by simp
    have c70 := hs7.drew.cell (put_same _ _ _ _) (i := 0) rfl
    have c71 := hs7.drew.cell (put_same _ _ _ _) (i := 1) rfl
    have Hk7 := Lib.hid (put_same γ1 (b + 7) W.heap.size (rdO l s))
    unfold rdO at H2 Hk7 l7 c70 c71
    clear HR c2 c50 c51 c63 c64 c65 ll l5 l6 lg hs7
    obtain ⟨c2, c50, c51, c63, c64, c65, ll, l5, l6, lg⟩ := H2.out.cells
    generalize put γ1 (b + 7) _ _ = γ2 at *
    generalize W.heap.size = g7 at *
    generalize W.alloc _ = W2 at *
    go_wp2_with fail
    go_ret2
    exact H2.out.post _ _

set_option maxRecDepth 100000 in
set_option maxHeartbeats 4000000 in
theorem read_word (h : ReadAt w0 γ b gl gm tc g clock lv ev es f c w) {d t : Int} (h1 : Fits d) (h2 : Fits t) (k dm pk op a b' v : Int) (hop : op = 31) (s : Int) (hfn : f d t = some (a, s)) (xe xn : Int) (hxe : c.wordE b' = xe) (hxn : c.wordN b' = xn) :
    Calls Try.prog 60 #[.pointer (some ⟨gl, 0, none⟩), .agg #[.int .i64 d, .int .i64 t], .agg #[.int .i64 k, .int .i64 dm, .int .i64 pk, .int .i64 op, .int .i64 a, .int .i64 b', .int .i64 v], .pointer (some ⟨g, 0, none⟩)] w
      (readPost w0 γ b gm f xe xn) := by
  have hR : RD w0 γ _ b gl gm tc g clock lv ev es f c d t k dm pk op a b' v w.heap.size _ := h.start
  have hfd := Lib.hid hfn
  clear hfn
  have HE : Hid (c.wordE b' = xe ∧ c.wordN b' = xn) := ⟨hxe, hxn⟩
  clear hxe hxn
  subst hop
  clear h
  unfold whoO entO at hR
  generalize put (put γ _ _ _) _ _ _ = γ1 at *
  have HR := Lib.hid hR
  clear hR
  go_enter Try.func60, Try.ntmps60
  go_wp2_with fail
  generalize (w.alloc (Obj.cells #[.int .i64 d, .int .i64 t] 117)).alloc _ = W at *
  generalize w.heap.size = g5 at *
  obtain ⟨c2, c50, c51, c63, c64, c65, ll, l5, l6, lg⟩ := HR.out.cells
  have hlk1 := HR.out.drew.look h1 h2
  have hlk2 := ((HR.out.new (.cells #[.int .i64 0, .int .i64 0] 129)).drew).look h1 h2
  rw [hfd.out] at hlk1 hlk2
  simp only [found, readV, Option.isSome] at hlk1 hlk2
  go_region
  all_goals
    clear hlk1 hlk2
    have H2 := Lib.hid (HR.out.new (rdO a s)).drew
    have hs7 := HR.out.r.own.new (b + 7) (rdO a s)
    have l7 : W.heap.size < (W.alloc (rdO a s)).heap.size := by simp
    have c70 := hs7.drew.cell (put_same _ _ _ _) (i := 0) rfl
    have c71 := hs7.drew.cell (put_same _ _ _ _) (i := 1) rfl
    have Hk7 := Lib.hid (put_same γ1 (b + 7) W.heap.size (rdO a s))
    unfold rdO at H2 Hk7 l7 c70 c71
    clear HR c2 c50 c51 c63 c64 c65 ll l5 l6 lg hs7
    obtain ⟨c2, c50, c51, c63, c64, c65, ll, l5, l6, lg⟩ := H2.out.cells
    generalize put γ1 (b + 7) _ _ = γ2 at *
    generalize W.heap.size = g7 at *
    generalize W.alloc _ = W2 at *
    go_wp2_with fail
    refine (cellWord_any H2.out.r.own H2.out.r.cell H2.out.r.ok b').mono ?_
    rintro e w4 ⟨rfl, rfl⟩
    rw [ans2_eq, HE.out.1, HE.out.2]
    go_wp2_with fail
    go_ret2
    exact H2.out.post _ _

set_option maxRecDepth 100000 in
set_option maxHeartbeats 4000000 in
theorem read_end (h : ReadAt w0 γ b gl gm tc g clock lv ev es f c w) {d t : Int} (h1 : Fits d) (h2 : Fits t) (k dm pk op a b' v : Int) (hop : op = 32) (s : Int) (hfn : f d t = some (a, s)) (xe : Int) (hxe : c.sameE s = xe) :
    Calls Try.prog 60 #[.pointer (some ⟨gl, 0, none⟩), .agg #[.int .i64 d, .int .i64 t], .agg #[.int .i64 k, .int .i64 dm, .int .i64 pk, .int .i64 op, .int .i64 a, .int .i64 b', .int .i64 v], .pointer (some ⟨g, 0, none⟩)] w
      (readPost w0 γ b gm (fnDel f d t) xe 0) := by
  have hR : RD w0 γ _ b gl gm tc g clock lv ev es f c d t k dm pk op a b' v w.heap.size _ := h.start
  have hfd := Lib.hid hfn
  clear hfn
  have HE := Lib.hid hxe
  clear hxe
  subst hop
  clear h
  unfold whoO entO at hR
  generalize put (put γ _ _ _) _ _ _ = γ1 at *
  have HR := Lib.hid hR
  clear hR
  go_enter Try.func60, Try.ntmps60
  go_wp2_with fail
  generalize (w.alloc (Obj.cells #[.int .i64 d, .int .i64 t] 117)).alloc _ = W at *
  generalize w.heap.size = g5 at *
  obtain ⟨c2, c50, c51, c63, c64, c65, ll, l5, l6, lg⟩ := HR.out.cells
  have hlk1 := HR.out.drew.look h1 h2
  have hlk2 := ((HR.out.new (.cells #[.int .i64 0, .int .i64 0] 129)).drew).look h1 h2
  rw [hfd.out] at hlk1 hlk2
  simp only [found, readV, Option.isSome] at hlk1 hlk2
  go_region
  all_goals
    clear hlk1 hlk2
    have H2 := Lib.hid (HR.out.new (rdO a s)).drew
    have hs7 := HR.out.r.own.new (b + 7) (rdO a s)
    have l7 : W.heap.size < (W.alloc (rdO a s)).heap.size := by simp
    have c70 := hs7.drew.cell (put_same _ _ _ _) (i := 0) rfl
    have c71 := hs7.drew.cell (put_same _ _ _ _) (i := 1) rfl
    have Hk7 := Lib.hid (put_same γ1 (b + 7) W.heap.size (rdO a s))
    unfold rdO at H2 Hk7 l7 c70 c71
    clear HR c2 c50 c51 c63 c64 c65 ll l5 l6 lg hs7
    obtain ⟨c2, c50, c51, c63, c64, c65, ll, l5, l6, lg⟩ := H2.out.cells
    generalize put γ1 (b + 7) _ _ = γ2 at *
    generalize W.heap.size = g7 at *
    generalize W.alloc _ = W2 at *
    go_wp2_with fail
    obtain ⟨es2, hdel, hR3⟩ := H2.out.drew.del h1 h2
    have H3 := Lib.hid hR3
    have c71' := hR3.r.own.cell ((put_other _ _ _ (by omega)).trans Hk7.out) (i := 1) (v := .int .i64 s) rfl
    clear hR3
    go_region
    all_goals
      generalize put γ2 _ _ _ = γ3 at *
      generalize setBlock _ _ _ = W3 at *
      clear c2 c50 c51 c63 c64 c65 ll l5 l6 lg hdel c70 c71
      obtain ⟨c2, c50, c51, c63, c64, c65, ll, l5, l6, lg⟩ := H3.out.cells
      go_wp2_with fail
      refine (cellSame_any H3.out.r.own H3.out.r.cell H3.out.r.ok s).mono ?_
      rintro e w4 ⟨rfl, rfl⟩
      rw [ans_eq, HE.out]
      go_wp2_with fail
      go_ret2
      exact H3.out.post _ _

end
end Go.Proofs.Ytniiefcbiapieaa