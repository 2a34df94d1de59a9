/- Is a link there for a domain? -/
import Derived.Test.YtniiefcbiapieaaNewAny
import Derived.Deep.QuietTactic
import Derived.BigQuiet
import Derived.BigGuardPart
namespace Go.Proofs.Ytniiefcbiapieaa
open Go.RowKit Go.ChangeMaps

/-- The cells of a slice. -/
theorem SliceAt.row {w0 w : World} {γ : Nat → Option (Nat × Obj)} {t e size n : Nat} {v : Value} {xs : List Value} (hs : SliceAt γ t e size v n xs) (h : Own w0 w γ) (hn : 0 < n) :
    ∃ g cap, v = .slice (some ⟨g, 0, none⟩) n cap ∧ n ≤ cap ∧ ∀ (j : Nat) u, xs[j]? = some u → w.cell? ⟨g, j, none⟩ = some u := by
  rcases hs.2 with ⟨_, h0⟩ | ⟨g, cap, cur, rfl, h2, h3, h4, h5, h6⟩
  · omega
  · refine ⟨g, cap, rfl, h3, fun j u hj => h.cell h2 ?_⟩
    have hj' := hj
    rw [← h6, List.getElem?_take] at hj'
    split at hj'
    · simpa using hj'
    · cases hj'

theorem ta_cc (v : Value) (w : World) : (Instr.typeAssert (.iface 46 v) 20 46 true).run Try.prog w = .ok (.tuple #[v, .bool true]) w := by kernel_rfl
theorem ta_tc (v : Value) (w : World) : (Instr.typeAssert (.iface 109 v) 20 46 true).run Try.prog w = .ok (.tuple #[.pointer none, .bool false]) w := by kernel_rfl
theorem ta_c (v : Value) (w : World) : (Instr.typeAssert (.iface 46 v) 20 46 false).run Try.prog w = .ok v w := by kernel_rfl
theorem ta_t (v : Value) (w : World) : (Instr.typeAssert (.iface 109 v) 20 109 false).run Try.prog w = .ok v w := by kernel_rfl

/-- What a link comes to for a domain. -/
def mayE (ls : List LinkS) (d op a : Int) : Int :=
  if a < 0 ∨ (ls.length : Int) ≤ a then 7 else
  match ls[a.toNat]? with
  | none => 7
  | some l => if (l.kind = 1) ≠ (op ≤ 32) then 8 else if d ≠ (if upB op then l.from_ else l.to) then 10 else 0

def entV (k dm pk op a b c : Int) : Value := .agg #[.int .i64 k, .int .i64 dm, .int .i64 pk, .int .i64 op, .int .i64 a, .int .i64 b, .int .i64 c]
def entO (k dm pk op a b c : Int) : Obj := .cells #[.int .i64 k, .int .i64 dm, .int .i64 pk, .int .i64 op, .int .i64 a, .int .i64 b, .int .i64 c] 74

def mayPost (w : World) (x : Int) (e : Ending) (w' : World) : Prop := e = .returned (.int .i64 x) ∧ Below w.heap.size w w'

section
variable {w0 w : World} {γ : Nat → Option (Nat × Obj)} {b gl : Nat} {ls : List LinkS} {en : Nat → EndS} {f : Int → Int → Option (Int × Int)}

/-- What a walk asks of Links at one link. -/
structure AtLink (w : World) (gl n : Nat) (k : Nat) (l : LinkS) (u : Value) : Prop where
  ex : ∃ g cap g2 cap2, w.cell? ⟨gl, 0, none⟩ = some (.slice (some ⟨g, 0, none⟩) n cap) ∧ w.cell? ⟨gl, 1, none⟩ = some (.slice (some ⟨g2, 0, none⟩) n cap2) ∧
    w.cell? ⟨g, k * 4, none⟩ = some (.int .i64 l.kind) ∧ w.cell? ⟨g, k * 4 + 1, none⟩ = some (.int .i64 l.from_) ∧ w.cell? ⟨g, k * 4 + 2, none⟩ = some (.int .i64 l.to) ∧ w.cell? ⟨g, k * 4 + 3, none⟩ = some (.int .i64 l.size) ∧
    w.cell? ⟨g2, k, none⟩ = some u

theorem LinksAt.at_ (h : LinksAt w0 γ b gl ls en f w) {k : Nat} {l : LinkS} (hl : ls[k]? = some l) : ∃ u, AtLink w gl ls.length k l u ∧ EndAt γ (b + 10 + 2 * k) u l.kind (en k) := by
  obtain ⟨ho, lv, ev, gm, es, clock, vs, h0, h1, h2, h3, h4, h5⟩ := h
  have hk : k < ls.length := (List.getElem?_eq_some_iff.1 hl).1
  obtain ⟨g, cap, rfl, _, c1⟩ := h3.row ho (by omega)
  obtain ⟨g2, cap2, rfl, _, c2⟩ := h4.row ho (by omega)
  have hv : vs[k]? = some (vs.getD k undef) := by
    have : k < vs.length := by rw [h4.1]; omega
    rw [List.getD_eq_getElem?_getD, List.getElem?_eq_getElem this]; rfl
  refine ⟨_, ⟨g, cap, g2, cap2, ho.cell h0 (i := 0) rfl, ho.cell h0 (i := 1) rfl, ?_, ?_, ?_, ?_, c2 k _ hv⟩, h5 k l hl⟩
  · exact c1 (k * 4 + 0) _ (linkVals_get hl 0 (by omega))
  · exact c1 (k * 4 + 1) _ (linkVals_get hl 1 (by omega))
  · exact c1 (k * 4 + 2) _ (linkVals_get hl 2 (by omega))
  · exact c1 (k * 4 + 3) _ (linkVals_get hl 3 (by omega))

theorem LinksAt.len (h : LinksAt w0 γ b gl ls en f w) : ∃ A cap, w.cell? ⟨gl, 0, none⟩ = some (.slice A ls.length cap) := by
  obtain ⟨ho, lv, ev, gm, es, clock, vs, h0, h1, h2, h3, h4, h5⟩ := h
  obtain ⟨A, cap, rfl, _⟩ := h3.form
  exact ⟨A, cap, ho.cell h0 (i := 0) rfl⟩

theorem EndAt.isCell {t : Nat} {u : Value} {kind : Int} {e : EndS} (h : EndAt γ t u kind e) : (kind = 1 ∧ ∃ g, u = .iface 46 (.pointer (some ⟨g, 0, none⟩))) ∨ (kind ≠ 1 ∧ ∃ g, u = .iface 109 (.pointer (some ⟨g, 0, none⟩))) := by
  cases e with
  | cell c => obtain ⟨a, g, b, _⟩ := h; exact .inl ⟨a, g, b⟩
  | tap s all next => obtain ⟨a, g, _, b, _⟩ := h; exact .inr ⟨a, g, b⟩

set_option maxRecDepth 100000 in
set_option maxHeartbeats 4000000 in
theorem may_low (h : LinksAt w0 γ b gl ls en f w) (k dm pk op a b' c d : Int) (ha : a < 0) :
    Calls Try.prog 58 #[.pointer (some ⟨gl, 0, none⟩), .int .i64 d, .agg #[.int .i64 k, .int .i64 dm, .int .i64 pk, .int .i64 op, .int .i64 a, .int .i64 b', .int .i64 c]] w (mayPost w 7) := by
  obtain ⟨A, cap, c0⟩ := h.len
  have hb := (Below.refl w.heap.size w).alloc (Nat.le_refl _) (entO k dm pk op a b' c)
  unfold entO at hb
  have hfin : ∀ n, mayPost w 7 (.returned (.int .i64 7)) ((w.alloc (.cells #[.int .i64 k, .int .i64 dm, .int .i64 pk, .int .i64 op, .int .i64 a, .int .i64 b', .int .i64 c] 74)).drewN n) := fun n => ⟨rfl, hb.trans ⟨rfl, rfl, rfl, Nat.le_refl _, fun _ _ => rfl⟩⟩
  clear hb h
  go_enter Try.func58, Try.ntmps58
  go_wp2_with fail
  go_quiet (fail)
  go_wp2_with fail
  go_ret
  exact hfin _

set_option maxRecDepth 100000 in
set_option maxHeartbeats 4000000 in
theorem may_high (h : LinksAt w0 γ b gl ls en f w) (k dm pk op a b' c d : Int) (ha : 0 ≤ a) (ha2 : (ls.length : Int) ≤ a) :
    Calls Try.prog 58 #[.pointer (some ⟨gl, 0, none⟩), .int .i64 d, .agg #[.int .i64 k, .int .i64 dm, .int .i64 pk, .int .i64 op, .int .i64 a, .int .i64 b', .int .i64 c]] w (mayPost w 7) := by
  obtain ⟨A, cap, c0⟩ := h.len
  have hlt := (h.own.lt h.top.choose_spec.choose_spec.choose_spec.choose_spec.choose_spec.choose_spec.1)
  have hb := (Below.refl w.heap.size w).alloc (Nat.le_refl _) (entO k dm pk op a b' c)
  unfold entO at hb
  have hfin : ∀ n, mayPost w 7 (.returned (.int .i64 7)) ((w.alloc (.cells #[.int .i64 k, .int .i64 dm, .int .i64 pk, .int .i64 op, .int .i64 a, .int .i64 b', .int .i64 c] 74)).drewN n) := fun n => ⟨rfl, hb.trans ⟨rfl, rfl, rfl, Nat.le_refl _, fun _ _ => rfl⟩⟩
  clear hb h
  go_enter Try.func58, Try.ntmps58
  go_wp2_with fail
  go_quiet (fail)
  go_wp2_with fail
  go_ret
  exact hfin _

set_option maxRecDepth 100000 in
set_option maxHeartbeats 8000000 in
theorem may_cell {n j : Nat} {l : LinkS} {gx : Nat} (h : AtLink w gl n j l (.iface 46 (.pointer (some ⟨gx, 0, none⟩)))) (hj : j < n) (hn : n ≤ 10) (k dm pk op b' c d : Int) (x : Int)
    (hx : x = if ¬ op ≤ 32 then 8 else if d ≠ (if upB op then l.from_ else l.to) then 10 else 0) :
    Calls Try.prog 58 #[.pointer (some ⟨gl, 0, none⟩), .int .i64 d, .agg #[.int .i64 k, .int .i64 dm, .int .i64 pk, .int .i64 op, .int .i64 j, .int .i64 b', .int .i64 c]] w (mayPost w x) := by
  obtain ⟨g, cap, g2, cap2, c0, c1, q0, q1, q2, q3, cu⟩ := h
  have l1 := World.block_lt_of_cell? w _ c0
  have l2 := World.block_lt_of_cell? w _ q0
  have l3 := World.block_lt_of_cell? w _ cu
  dsimp only at l1 l2 l3
  obtain ⟨kind, fr, tow, size⟩ := l
  dsimp only at q0 q1 q2 q3 hx
  have hb := (Below.refl w.heap.size w).alloc (Nat.le_refl _) (entO k dm pk op j b' c)
  unfold entO at hb
  have hfin : ∀ n2, mayPost w x (.returned (.int .i64 x)) ((w.alloc (.cells #[.int .i64 k, .int .i64 dm, .int .i64 pk, .int .i64 op, .int .i64 j, .int .i64 b', .int .i64 c] 74)).drewN n2) := fun _ => ⟨rfl, hb.trans ⟨rfl, rfl, rfl, Nat.le_refl _, fun _ _ => rfl⟩⟩
  have hjn : (j : Int) < n := by omega
  clear hb
  have hta := ta_cc (.pointer (some ⟨gx, 0, none⟩))
  by_cases hup : upB op = true
  · rw [hup] at hx
    replace hx : x = if ¬ op ≤ 32 then 8 else if d ≠ fr then 10 else 0 := hx
    by_cases ho : ¬ op ≤ 32
    · rw [if_pos ho] at hx
      subst hx
      have ho' : (32 : Int) < op := by omega
      have hb32 : decide (op ≤ 32) = false := by simpa using ho'
      clear ho
      have HU := Lib.hid hup
      clear hup
      go_enter Try.func58, Try.ntmps58
      go_wp2_with fail
      go_quiet (fail)
      go_wp2_with fail
      go_quiet (fail)
      go_wp2_with fail
      go_quiet (fail)
      go_wp2_with fail
      refine (up_any op _).mono ?_
      rintro e w1 ⟨rfl, rfl⟩
      rw [HU.out]
      go_wp2_with fail
      go_quiet (fail)
      go_wp2_with fail
      go_ret
      exact hfin _
    · rw [if_neg ho] at hx
      have ho' : op ≤ 32 := by omega
      clear ho
      by_cases hd : d = fr
      · rw [if_neg (by simpa using hd)] at hx
        subst hx
        have hdb : (d != fr) = false := by simpa using hd
        have hdb2 : (d == fr) = true := by simpa using hd
        clear hd
        have HU := Lib.hid hup
        clear hup
        go_enter Try.func58, Try.ntmps58
        go_wp2_with fail
        go_quiet (fail)
        go_wp2_with fail
        go_quiet (fail)
        go_wp2_with fail
        go_quiet (fail)
        go_wp2_with fail
        refine (up_any op _).mono ?_
        rintro e w1 ⟨rfl, rfl⟩
        rw [HU.out]
        go_wp2_with fail
        go_quiet (fail)
        go_wp2_with fail
        go_ret
        exact hfin _
      · rw [if_pos hd] at hx
        subst hx
        have hdb : (d != fr) = true := by simpa using hd
        have hdb2 : (d == fr) = false := by simpa using hd
        clear hd
        have HU := Lib.hid hup
        clear hup
        go_enter Try.func58, Try.ntmps58
        go_wp2_with fail
        go_quiet (fail)
        go_wp2_with fail
        go_quiet (fail)
        go_wp2_with fail
        go_quiet (fail)
        go_wp2_with fail
        refine (up_any op _).mono ?_
        rintro e w1 ⟨rfl, rfl⟩
        rw [HU.out]
        go_wp2_with fail
        go_quiet (fail)
        go_wp2_with fail
        go_ret
        exact hfin _
  · have hup : upB op = false := by simpa using hup
    rw [hup] at hx
    replace hx : x = if ¬ op ≤ 32 then 8 else if d ≠ tow then 10 else 0 := hx
    by_cases ho : ¬ op ≤ 32
    · rw [if_pos ho] at hx
      subst hx
      have ho' : (32 : Int) < op := by omega
      have hb32 : decide (op ≤ 32) = false := by simpa using ho'
      clear ho
      have HU := Lib.hid hup
      clear hup
      go_enter Try.func58, Try.ntmps58
      go_wp2_with fail
      go_quiet (fail)
      go_wp2_with fail
      go_quiet (fail)
      go_wp2_with fail
      go_quiet (fail)
      go_wp2_with fail
      refine (up_any op _).mono ?_
      rintro e w1 ⟨rfl, rfl⟩
      rw [HU.out]
      go_wp2_with fail
      go_ret
      exact hfin _
    · rw [if_neg ho] at hx
      have ho' : op ≤ 32 := by omega
      clear ho
      by_cases hd : d = tow
      · rw [if_neg (by simpa using hd)] at hx
        subst hx
        have hdb : (d != tow) = false := by simpa using hd
        have hdb2 : (d == tow) = true := by simpa using hd
        clear hd
        have HU := Lib.hid hup
        clear hup
        go_enter Try.func58, Try.ntmps58
        go_wp2_with fail
        go_quiet (fail)
        go_wp2_with fail
        go_quiet (fail)
        go_wp2_with fail
        go_quiet (fail)
        go_wp2_with fail
        refine (up_any op _).mono ?_
        rintro e w1 ⟨rfl, rfl⟩
        rw [HU.out]
        go_wp2_with fail
        go_ret
        exact hfin _
      · rw [if_pos hd] at hx
        subst hx
        have hdb : (d != tow) = true := by simpa using hd
        have hdb2 : (d == tow) = false := by simpa using hd
        clear hd
        have HU := Lib.hid hup
        clear hup
        go_enter Try.func58, Try.ntmps58
        go_wp2_with fail
        go_quiet (fail)
        go_wp2_with fail
        go_quiet (fail)
        go_wp2_with fail
        go_quiet (fail)
        go_wp2_with fail
        refine (up_any op _).mono ?_
        rintro e w1 ⟨rfl, rfl⟩
        rw [HU.out]
        go_wp2_with fail
        go_ret
        exact hfin _

set_option maxRecDepth 100000 in
set_option maxHeartbeats 8000000 in
theorem may_tap {n j : Nat} {l : LinkS} {gx : Nat} (h : AtLink w gl n j l (.iface 109 (.pointer (some ⟨gx, 0, none⟩)))) (hj : j < n) (hn : n ≤ 10) (k dm pk op b' c d : Int) (x : Int)
    (hx : x = if op ≤ 32 then 8 else if d ≠ (if upB op then l.from_ else l.to) then 10 else 0) :
    Calls Try.prog 58 #[.pointer (some ⟨gl, 0, none⟩), .int .i64 d, .agg #[.int .i64 k, .int .i64 dm, .int .i64 pk, .int .i64 op, .int .i64 j, .int .i64 b', .int .i64 c]] w (mayPost w x) := by
  obtain ⟨g, cap, g2, cap2, c0, c1, q0, q1, q2, q3, cu⟩ := h
  have l1 := World.block_lt_of_cell? w _ c0
  have l2 := World.block_lt_of_cell? w _ q0
  have l3 := World.block_lt_of_cell? w _ cu
  dsimp only at l1 l2 l3
  obtain ⟨kind, fr, tow, size⟩ := l
  dsimp only at q0 q1 q2 q3 hx
  have hb := (Below.refl w.heap.size w).alloc (Nat.le_refl _) (entO k dm pk op j b' c)
  unfold entO at hb
  have hfin : ∀ n2, mayPost w x (.returned (.int .i64 x)) ((w.alloc (.cells #[.int .i64 k, .int .i64 dm, .int .i64 pk, .int .i64 op, .int .i64 j, .int .i64 b', .int .i64 c] 74)).drewN n2) := fun _ => ⟨rfl, hb.trans ⟨rfl, rfl, rfl, Nat.le_refl _, fun _ _ => rfl⟩⟩
  have hjn : (j : Int) < n := by omega
  clear hb
  have hta := ta_tc (.pointer (some ⟨gx, 0, none⟩))
  by_cases hup : upB op = true
  · rw [hup] at hx
    replace hx : x = if op ≤ 32 then 8 else if d ≠ fr then 10 else 0 := hx
    by_cases ho : op ≤ 32
    · rw [if_pos ho] at hx
      subst hx
      have hb32 : decide (op ≤ 32) = true := by simpa using ho
      have HU := Lib.hid hup
      clear hup
      go_enter Try.func58, Try.ntmps58
      go_wp2_with fail
      go_quiet (fail)
      go_wp2_with fail
      go_quiet (fail)
      go_wp2_with fail
      go_quiet (fail)
      go_wp2_with fail
      refine (up_any op _).mono ?_
      rintro e w1 ⟨rfl, rfl⟩
      rw [HU.out]
      go_wp2_with fail
      go_quiet (fail)
      go_wp2_with fail
      go_ret
      exact hfin _
    · rw [if_neg ho] at hx
      have ho' : (32 : Int) < op := by omega
      clear ho
      by_cases hd : d = fr
      · rw [if_neg (by simpa using hd)] at hx
        subst hx
        have hdb : (d != fr) = false := by simpa using hd
        have hdb2 : (d == fr) = true := by simpa using hd
        clear hd
        have HU := Lib.hid hup
        clear hup
        go_enter Try.func58, Try.ntmps58
        go_wp2_with fail
        go_quiet (fail)
        go_wp2_with fail
        go_quiet (fail)
        go_wp2_with fail
        go_quiet (fail)
        go_wp2_with fail
        refine (up_any op _).mono ?_
        rintro e w1 ⟨rfl, rfl⟩
        rw [HU.out]
        go_wp2_with fail
        go_quiet (fail)
        go_wp2_with fail
        go_ret
        exact hfin _
      · rw [if_pos hd] at hx
        subst hx
        have hdb : (d != fr) = true := by simpa using hd
        have hdb2 : (d == fr) = false := by simpa using hd
        clear hd
        have HU := Lib.hid hup
        clear hup
        go_enter Try.func58, Try.ntmps58
        go_wp2_with fail
        go_quiet (fail)
        go_wp2_with fail
        go_quiet (fail)
        go_wp2_with fail
        go_quiet (fail)
        go_wp2_with fail
        refine (up_any op _).mono ?_
        rintro e w1 ⟨rfl, rfl⟩
        rw [HU.out]
        go_wp2_with fail
        go_quiet (fail)
        go_wp2_with fail
        go_ret
        exact hfin _
  · have hup : upB op = false := by simpa using hup
    rw [hup] at hx
    replace hx : x = if op ≤ 32 then 8 else if d ≠ tow then 10 else 0 := hx
    by_cases ho : op ≤ 32
    · rw [if_pos ho] at hx
      subst hx
      have hb32 : decide (op ≤ 32) = true := by simpa using ho
      have HU := Lib.hid hup
      clear hup
      go_enter Try.func58, Try.ntmps58
      go_wp2_with fail
      go_quiet (fail)
      go_wp2_with fail
      go_quiet (fail)
      go_wp2_with fail
      go_quiet (fail)
      go_wp2_with fail
      refine (up_any op _).mono ?_
      rintro e w1 ⟨rfl, rfl⟩
      rw [HU.out]
      go_wp2_with fail
      go_ret
      exact hfin _
    · rw [if_neg ho] at hx
      have ho' : (32 : Int) < op := by omega
      clear ho
      by_cases hd : d = tow
      · rw [if_neg (by simpa using hd)] at hx
        subst hx
        have hdb : (d != tow) = false := by simpa using hd
        have hdb2 : (d == tow) = true := by simpa using hd
        clear hd
        have HU := Lib.hid hup
        clear hup
        go_enter Try.func58, Try.ntmps58
        go_wp2_with fail
        go_quiet (fail)
        go_wp2_with fail
        go_quiet (fail)
        go_wp2_with fail
        go_quiet (fail)
        go_wp2_with fail
        refine (up_any op _).mono ?_
        rintro e w1 ⟨rfl, rfl⟩
        rw [HU.out]
        go_wp2_with fail
        go_ret
        exact hfin _
      · rw [if_pos hd] at hx
        subst hx
        have hdb : (d != tow) = true := by simpa using hd
        have hdb2 : (d == tow) = false := by simpa using hd
        clear hd
        have HU := Lib.hid hup
        clear hup
        go_enter Try.func58, Try.ntmps58
        go_wp2_with fail
        go_quiet (fail)
        go_wp2_with fail
        go_quiet (fail)
        go_wp2_with fail
        go_quiet (fail)
        go_wp2_with fail
        refine (up_any op _).mono ?_
        rintro e w1 ⟨rfl, rfl⟩
        rw [HU.out]
        go_wp2_with fail
        go_ret
        exact hfin _

theorem may_any (h : LinksAt w0 γ b gl ls en f w) (h10 : ls.length ≤ 10) (k dm pk op a b' c d : Int) :
    Calls Try.prog 58 #[.pointer (some ⟨gl, 0, none⟩), .int .i64 d, .agg #[.int .i64 k, .int .i64 dm, .int .i64 pk, .int .i64 op, .int .i64 a, .int .i64 b', .int .i64 c]] w (mayPost w (mayE ls d op a)) := by
  by_cases h1 : a < 0
  · rw [show mayE ls d op a = 7 from if_pos (.inl h1)]
    exact may_low h _ _ _ _ _ _ _ _ h1
  · by_cases h2 : (ls.length : Int) ≤ a
    · rw [show mayE ls d op a = 7 from if_pos (.inr h2)]
      exact may_high h _ _ _ _ _ _ _ _ (by omega) h2
    · obtain ⟨j, rfl⟩ : ∃ j : Nat, a = j := ⟨a.toNat, by omega⟩
      have hj : j < ls.length := by omega
      have hl : ls[j]? = some ls[j] := List.getElem?_eq_getElem hj
      obtain ⟨u, hat, hend⟩ := h.at_ hl
      have hm : mayE ls d op j = if (ls[j].kind = 1) ≠ (op ≤ 32) then 8 else if d ≠ (if upB op then ls[j].from_ else ls[j].to) then 10 else 0 := by
        unfold mayE
        rw [if_neg (by omega), Int.toNat_natCast, hl]
      generalize ls[j] = l at *
      rcases hend.isCell with ⟨hk, g, rfl⟩ | ⟨hk, g, rfl⟩
      · exact may_cell hat hj h10 _ _ _ _ _ _ _ _ (by rw [hm]; simp [hk])
      · exact may_tap hat hj h10 _ _ _ _ _ _ _ _ (by rw [hm]; simp [hk])
end
end Go.Proofs.Ytniiefcbiapieaa
