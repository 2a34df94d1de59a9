/- The reference's cell: contracts over named objects. -/
import Derived.Test.YtniiefcbiapieaaCel
import Derived.Test.YtniiefcbiapieaaRefPum
import Derived.Deep.OwnRows
namespace Go.Proofs.Ytniiefcbiapieaa
open Go.RowKit

/-- 'make([]int, n)', n small. -/
theorem wpList_make37 (w : World) {ops : Array Oper} {rest : List Oper} {o : Oper} {a : Act} {Q : Exit → Act → World → Prop}
    (hg : o.guard = none) (l c : Operand) (hop : o.op = Op.makeSlice 37 l c) (n : Nat) (hn : n ≤ 4096) (kl kc : IntKind) (L C : Int) (hl : a.eval l = .int kl L) (hc : a.eval c = .int kc C) (hL : L = n) (hC : C = n)
    (hK : wpList Try.prog ops Q rest (a.put o.dst (.slice (some ⟨w.heap.size, 0, none⟩) n n)) (w.alloc (.cells (madeCells #[.int .i64 0] n) 3))) :
    wpList Try.prog ops Q (o :: rest) a w := by
  obtain ⟨i0, hi, hz0, hz1, hz2⟩ := info_parts Try.info3
  subst hL
  exact wpList_make_row w hg l c 37 hop 3 i0 (.int .i64 0) Try.underlying37 hi hz0 hz1 rfl kl kc n hl (hc.trans (by rw [hC])) (by rw [hz2]; omega) (by omega) hK

/-- The reference's cell that fits a cell: a struct (object tr), and the slice of its words (object ta). -/
def RefC (γ : Nat → Option (Nat × Obj)) (tr ta g : Nat) (c : CS) : Prop :=
  ∃ (b e : Int) (sv : Value), 0 ≤ e ∧ b + e = c.q ∧ (c.t = 0 → b = e) ∧ (c.t ≠ 0 → b = e + 1) ∧
    γ tr = some (g, .cells #[.int .i64 b, .int .i64 e, sv, .int .i64 c.t] 54 (0, 0)) ∧ SliceAt γ ta 3 1 sv c.s (ints (c.ws.take c.s))

theorem RefC.keep {γ γ' : Nat → Option (Nat × Obj)} {tr ta g : Nat} {c : CS} (h : RefC γ tr ta g c) (h1 : γ' tr = γ tr) (h2 : γ' ta = γ ta) : RefC γ' tr ta g c := by
  obtain ⟨b, e, sv, a1, a2, a3, a4, h3, h4⟩ := h
  exact ⟨b, e, sv, a1, a2, a3, a4, by rw [h1]; exact h3, h4.keep h2⟩

theorem SliceAt.made (γ : Nat → Option (Nat × Obj)) (t g n : Nat) (h : n ≤ maxLen) (hg : γ t = some (g, .cells (madeCells #[.int .i64 0] n) 3 (0, 0))) :
    SliceAt γ t 3 1 (.slice (some ⟨g, 0, none⟩) n n) n (ints (List.replicate n 0)) := by
  refine ⟨by simp [ints], .inr ⟨g, n, _, rfl, hg, Nat.le_refl _, h, by simp [size_madeCells], ?_⟩⟩
  apply List.ext_getElem?
  intro i
  simp [madeCells, ints, List.getElem?_take]
  by_cases hi : i < n <;> simp [hi, Nat.mod_one]

def rcMade (w0 : World) (γ : Nat → Option (Nat × Obj)) (tr ta : Nat) (c : CS) (e : Ending) (w' : World) : Prop :=
  ∃ g γ', e = .returned (.pointer (some ⟨g, 0, none⟩)) ∧ Own w0 w' γ' ∧ RefC γ' tr ta g c ∧ ∀ k, k ≠ tr → k ≠ ta → γ' k = γ k

set_option maxHeartbeats 1000000 in
theorem rcNew_any {w0 w : World} {γ : Nat → Option (Nat × Obj)} (hs : Own w0 w γ) (tr ta : Nat) (hne : tr ≠ ta) (size : Int) :
    Calls Try.prog 27 #[.int .i64 size] w (rcMade w0 γ tr ta (CS.new (clampC size))) := by
  have fin : ∀ k : Nat, clampC size = k → rcMade w0 γ tr ta (CS.new (clampC size)) (.returned (.pointer (some ⟨w.heap.size + 1, 0, none⟩)))
      ((w.alloc (.cells (madeCells #[.int .i64 0] k) 3)).alloc (.cells #[.int .i64 0, .int .i64 0, .slice (some ⟨w.heap.size, 0, none⟩) k k, .int .i64 0] 54)) := by
    intro k hk
    have hb := clampC_bounds size
    subst hk
    have h1 := hs.new ta (.cells (madeCells #[.int .i64 0] (clampC size)) 3)
    have h2 := h1.new tr (.cells #[.int .i64 0, .int .i64 0, .slice (some ⟨w.heap.size, 0, none⟩) (clampC size) (clampC size), .int .i64 0] 54)
    have e2 : (w.alloc (.cells (madeCells #[.int .i64 0] (clampC size)) 3)).heap.size = w.heap.size + 1 := by simp
    rw [e2] at h2
    refine ⟨_, _, rfl, h2, ⟨0, 0, _, by omega, rfl, fun _ => rfl, fun h => absurd rfl h, put_same _ _ _ _, ?_⟩, fun k h1 h2 => by rw [put_other _ _ _ h1, put_other _ _ _ h2]⟩
    have h3 := SliceAt.made (put (put γ ta w.heap.size (.cells (madeCells #[.int .i64 0] (clampC size)) 3)) tr (w.alloc (.cells (madeCells #[.int .i64 0] (clampC size)) 3)).heap.size (.cells #[.int .i64 0, .int .i64 0, .slice (some ⟨w.heap.size, 0, none⟩) (clampC size) (clampC size), .int .i64 0] 54)) ta w.heap.size (clampC size) (by unfold maxLen; omega) (by rw [put_other _ _ _ (Ne.symm hne), put_same])
    rw [e2] at h3
    have e1 : (CS.new (clampC size)).ws.take (CS.new (clampC size)).s = List.replicate (clampC size) 0 := by
      show [0, 0, 0, 0].take (clampC size) = _
      have : clampC size = 1 ∨ clampC size = 2 ∨ clampC size = 3 ∨ clampC size = 4 := by omega
      rcases this with h | h | h | h <;> rw [h] <;> rfl
    rw [e1]
    exact h3
  by_cases a1 : size < 1
  · have hk := fin 1 (by unfold clampC; split <;> (try split) <;> omega)
    go_enter Try.func27, Try.ntmps27
    go_wp2_with (refine wpList_make37 _ rfl _ _ rfl 1 (by omega) .i64 .i64 _ _ rfl rfl rfl rfl ?_)
    go_ret
    exact hk
  · by_cases a8 : 4 < size
    · have hk := fin 4 (by unfold clampC; rw [if_neg (by omega), if_pos (by omega)])
      go_enter Try.func27, Try.ntmps27
      go_wp2_with (refine wpList_make37 _ rfl _ _ rfl 4 (by omega) .i64 .i64 _ _ rfl rfl rfl rfl ?_)
      go_ret
      exact hk
    · obtain ⟨k, rfl⟩ : ∃ k : Nat, size = k := ⟨size.toNat, by omega⟩
      have hk := fin k (by unfold clampC; rw [if_neg (by omega), if_neg (by omega)]; omega)
      go_enter Try.func27, Try.ntmps27
      go_wp2_with (refine wpList_make37 _ rfl _ _ rfl k (by omega) .i64 .i64 _ _ rfl rfl rfl rfl ?_)
      go_ret
      exact hk

section
variable {w0 w : World} {γ : Nat → Option (Nat × Obj)} {tr ta g : Nat} {c : CS}

theorem rcStart_any (hs : Own w0 w γ) (hr : RefC γ tr ta g c) (hc : c.Ok) : Calls Try.prog 50 #[.pointer (some ⟨g, 0, none⟩)] w fun e w' => e = ans2 c.startN c.startE ∧ Own w0 w' γ := by
  obtain ⟨b, e, sv, h1, h2, h3, h4, hg, hsl⟩ := hr
  have c0 : w.cell? ⟨g, 0, none⟩ = some (.int .i64 b) := hs.cell hg (i := 0) rfl
  have c1 : w.cell? ⟨g, 1, none⟩ = some (.int .i64 e) := hs.cell hg (i := 1) rfl
  have hq := hc.small
  by_cases h : c.t = 0
  · rw [show c.startN = b + e by unfold CS.startN; rw [if_neg (by simpa using h)]; omega, show c.startE = 0 by unfold CS.startE; rw [if_neg (by simpa using h)]]
    obtain rfl := h3 h
    have hb : b < 1000 := by omega
    clear h2 h3 h4 hq h
    go_enter Try.func50, Try.ntmps50
    go_wp2
    go_quiet (fail)
    go_wp2
    go_quiet (fail)
    go_wp2
    go_ret2
    exact ⟨rfl, (hs.drewN _).drewN _⟩
  · rw [show c.startN = 0 from if_pos h, show c.startE = 17 from if_pos h]
    have hd : decide (e < b) = true := by have := h4 h; simp; omega
    clear h2 h3 h4 hq h
    go_enter Try.func50, Try.ntmps50
    go_wp2
    go_quiet (fail)
    go_wp2
    go_ret2
    exact ⟨rfl, hs.drewN _⟩

theorem rcSame_any (hs : Own w0 w γ) (hr : RefC γ tr ta g c) (hc : c.Ok) (n : Int) : Calls Try.prog 52 #[.pointer (some ⟨g, 0, none⟩), .int .i64 n] w fun e w' => e = ans (c.sameE n) ∧ Own w0 w' γ := by
  have hst := rcStart_any hs hr hc
  by_cases h : c.t = 0
  · by_cases h1 : (c.q : Int) = n
    · rw [show c.sameE n = 0 from if_neg (by simp [h, h1])]
      rw [show c.startN = n by unfold CS.startN; rw [if_neg (by simpa using h)]; exact h1, show c.startE = 0 by unfold CS.startE; rw [if_neg (by simpa using h)], ans2_eq] at hst
      clear h h1
      go_enter Try.func52, Try.ntmps52
      go_wp2_with fail
      refine hst.mono ?_
      rintro e w1 ⟨rfl, ho⟩
      go_wp2
      go_ret
      exact ⟨rfl, ho⟩
    · rw [show c.sameE n = 17 from if_pos (.inl h1)]
      rw [show c.startN = c.q by unfold CS.startN; rw [if_neg (by simpa using h)], show c.startE = 0 by unfold CS.startE; rw [if_neg (by simpa using h)], ans2_eq] at hst
      have hd : ((c.q : Int) != n) = true := by simpa using h1
      generalize (c.q : Int) = q at *
      clear h h1
      go_enter Try.func52, Try.ntmps52
      go_wp2_with fail
      refine hst.mono ?_
      rintro e w1 ⟨rfl, ho⟩
      go_wp2
      go_ret
      exact ⟨rfl, ho⟩
  · rw [show c.sameE n = 17 from if_pos (.inr h)]
    rw [show c.startN = 0 from if_pos h, show c.startE = 17 from if_pos h, ans2_eq] at hst
    clear h
    go_enter Try.func52, Try.ntmps52
    go_wp2_with fail
    refine hst.mono ?_
    rintro e w1 ⟨rfl, ho⟩
    go_wp2
    go_ret
    exact ⟨rfl, ho⟩

theorem rcWord_any (hs : Own w0 w γ) (hr : RefC γ tr ta g c) (hc : c.Ok) (i : Int) : Calls Try.prog 51 #[.pointer (some ⟨g, 0, none⟩), .int .i64 i] w fun e w' => e = ans2 (c.wordN i) (c.wordE i) ∧ w = w' := by
  obtain ⟨b, e, sv, h1, h2, h3, h4, hg, hsl⟩ := hr
  obtain ⟨A, cap, hsv, hcap⟩ := hsl.form
  have c2 : w.cell? ⟨g, 2, none⟩ = some sv := hs.cell hg (i := 2) rfl
  have hh := hc.hi
  by_cases h : i < 0 ∨ (c.s : Int) ≤ i
  · rw [show c.wordN i = 0 from if_pos h, show c.wordE i = 1 from if_pos h]
    by_cases h0 : i < 0
    · have d0 : decide (i < 0) = true := by simpa using h0
      clear h h0 hs hg hsl
      go_enter Try.func51, Try.ntmps51
      go_wp2
      go_ret2
      exact ⟨rfl, rfl⟩
    · have d0 : decide (i < 0) = false := by simpa using h0
      have d1 : decide ((c.s : Int) ≤ i) = true := by simp; omega
      subst hsv
      generalize c.s = s at *
      clear h h0 hs hg hsl
      go_enter Try.func51, Try.ntmps51
      go_wp2
      go_ret2
      exact ⟨rfl, rfl⟩
  · rw [show c.wordN i = c.ws.getD i.toNat 0 from if_neg h, show c.wordE i = 0 from if_neg h]
    obtain ⟨k, rfl⟩ : ∃ k : Nat, i = k := ⟨i.toNat, by omega⟩
    have hk : k < c.s := by omega
    obtain ⟨g', cap', hA, hcell⟩ := hsl.at_ hs hk
    rw [ints_get _ _ (by simp [hc.len]; omega)] at hcell
    have e1 : (c.ws.take c.s).getD k 0 = c.ws.getD k 0 := by simp [List.getD_eq_getElem?_getD, List.getElem?_take, hk]
    rw [e1] at hcell
    rw [Int.toNat_natCast]
    generalize c.ws.getD k 0 = u at *
    have d0 : decide ((k : Int) < 0) = false := by simp
    have d1 : decide ((c.s : Int) ≤ k) = false := by simp; omega
    rw [hA] at c2
    generalize c.s = s at *
    clear h hs hg hsl e1 hsv hA
    go_enter Try.func51, Try.ntmps51
    go_wp2
    go_ret2
    exact ⟨rfl, rfl⟩

theorem rcWrites_any (hs : Own w0 w γ) (hr : RefC γ tr ta g c) (hc : c.Ok) (t' : Int) : Calls Try.prog 63 #[.pointer (some ⟨g, 0, none⟩), .int .i64 t'] w fun e w' => e = .returned (.bool (decide (c.t ≠ 0 ∧ c.t = t'))) ∧ Own w0 w' γ := by
  obtain ⟨b, e, sv, h1, h2, h3, h4, hg, hsl⟩ := hr
  have c0 : w.cell? ⟨g, 0, none⟩ = some (.int .i64 b) := hs.cell hg (i := 0) rfl
  have c1 : w.cell? ⟨g, 1, none⟩ = some (.int .i64 e) := hs.cell hg (i := 1) rfl
  have c3 : w.cell? ⟨g, 3, none⟩ = some (.int .i64 c.t) := hs.cell hg (i := 3) rfl
  have hq := hc.small
  by_cases h : c.t = 0
  · have hd : decide (e < b) = false := by have := h3 h; simp; omega
    rw [show decide (c.t ≠ 0 ∧ c.t = t') = false by simp [h]]
    clear h2 h3 h4 hq h
    go_enter Try.func63, Try.ntmps63
    go_wp2
    go_quiet (fail)
    go_wp2
    go_ret
    exact ⟨rfl, hs.drewN _⟩
  · have hd : decide (e < b) = true := by have := h4 h; simp; omega
    have he : decide (c.t ≠ 0 ∧ c.t = t') = (c.t == t') := by
      by_cases h' : c.t = t'
      · rw [show (c.t == t') = true by simpa using h']; simp [h, h']; omega
      · rw [show (c.t == t') = false by simpa using h']; simp [h']
    rw [he]
    generalize c.t = t at *
    clear h2 h3 h4 hq h he
    go_enter Try.func63, Try.ntmps63
    go_wp2
    go_quiet (fail)
    go_wp2
    go_ret
    exact ⟨rfl, hs.drewN _⟩
end
end Go.Proofs.Ytniiefcbiapieaa
