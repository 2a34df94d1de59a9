/- A partial heap: which blocks a call owns, and what each holds; how each step of a walk hands that on. -/
import Derived.Below
import Derived.Deep.Draws
import Derived.WalkKit
import Derived.Deep.QuietTactic
import Derived.BigQuiet
namespace Go.Proofs.Ytniiefcbiapieaa
open Go.RowKit

def upd (H : Nat → Option Obj) (g : Nat) (o : Obj) : Nat → Option Obj := fun k => if k = g then some o else H k

theorem upd_same (H : Nat → Option Obj) (g : Nat) (o : Obj) : upd H g o g = some o := by simp [upd]
theorem upd_other (H : Nat → Option Obj) {g k : Nat} (o : Obj) (h : k ≠ g) : upd H g o k = H k := by simp [upd, h]

/-- What was there when the whole call began (w0) is as it was; the blocks of H lie behind it and hold what H says. -/
structure Sep (w0 w : World) (H : Nat → Option Obj) : Prop where
  below : Below w0.heap.size w0 w
  own : ∀ g o, H g = some o → w0.heap.size ≤ g ∧ w.heap[g]? = some o

theorem Sep.start (w : World) : Sep w w (fun _ => none) := ⟨Below.refl _ _, fun _ _ h => by cases h⟩

theorem Sep.lt {w0 w : World} {H : Nat → Option Obj} (h : Sep w0 w H) {g : Nat} {o : Obj} (hg : H g = some o) : g < w.heap.size :=
  (Array.getElem?_eq_some_iff.1 (h.own g o hg).2).1

theorem Sep.drew {w0 w : World} {H : Nat → Option Obj} (h : Sep w0 w H) : Sep w0 w.drew H := ⟨h.below.drew, h.own⟩
theorem Sep.drewN {w0 w : World} {H : Nat → Option Obj} (h : Sep w0 w H) (n : Nat) : Sep w0 (w.drewN n) H :=
  ⟨⟨h.below.os, h.below.tape, h.below.output, h.below.size, h.below.block⟩, h.own⟩

theorem Sep.below' {w0 w w' : World} {H : Nat → Option Obj} (h : Sep w0 w H) (hb : Below w.heap.size w w') : Sep w0 w' H :=
  ⟨h.below.trans (hb.mono h.below.size), fun g o hg => ⟨(h.own g o hg).1, (hb.block g (h.lt hg)).trans (h.own g o hg).2⟩⟩

theorem Sep.alloc {w0 w : World} {H : Nat → Option Obj} (h : Sep w0 w H) (o : Obj) : Sep w0 (w.alloc o) H :=
  h.below' ((Below.refl _ _).alloc (Nat.le_refl _) _)

theorem Sep.none {w0 w : World} {H : Nat → Option Obj} (h : Sep w0 w H) {g : Nat} (hg : w.heap.size ≤ g) : H g = none := by
  cases hx : H g with
  | none => rfl
  | some o => have := h.lt hx; omega

/-- A new block that is kept. -/
theorem Sep.new {w0 w : World} {H : Nat → Option Obj} (h : Sep w0 w H) (o : Obj) : Sep w0 (w.alloc o) (upd H w.heap.size o) := by
  refine ⟨(h.alloc o).below, fun g o' hg => ?_⟩
  by_cases e : g = w.heap.size
  · subst e
    rw [upd_same] at hg
    cases hg
    exact ⟨h.below.size, by show (w.heap.push o)[w.heap.size]? = _; simp⟩
  · rw [upd_other _ _ e] at hg
    exact (h.alloc o).own g o' hg

theorem heap_setCell_same {w : World} {g : Nat} {t : TypeId} {cs : Array Value} {fr : Nat × Nat} (h : w.heap[g]? = some (.cells cs t fr)) (i : Nat) (u : Value) :
    (w.setCell ⟨g, i, Option.none⟩ u).heap[g]? = some (.cells (cs.setIfInBounds i u) t fr) := by
  simp only [World.setCell, Array.getElem?_modify]
  simp [h]

/-- A store into a block of H. -/
theorem Sep.setCell {w0 w : World} {H : Nat → Option Obj} (h : Sep w0 w H) {g : Nat} {t : TypeId} {cs : Array Value} {fr : Nat × Nat} (hg : H g = some (.cells cs t fr)) (i : Nat) (u : Value) :
    Sep w0 (w.setCell ⟨g, i, Option.none⟩ u) (upd H g (.cells (cs.setIfInBounds i u) t fr)) := by
  have hb := (h.own g _ hg).1
  refine ⟨h.below.setCell (p := ⟨g, i, Option.none⟩) hb u, fun k o hk => ?_⟩
  by_cases e : k = g
  · subst e
    rw [upd_same] at hk
    cases hk
    exact ⟨hb, heap_setCell_same (h.own k _ hg).2 i u⟩
  · rw [upd_other _ _ e] at hk
    exact ⟨(h.own k o hk).1, (Below.heap_setCell w _ u k e).trans (h.own k o hk).2⟩

/-- Less may be said. -/
theorem Sep.less {w0 w : World} {H H' : Nat → Option Obj} (h : Sep w0 w H) (hs : ∀ g o, H' g = some o → H g = some o) : Sep w0 w H' :=
  ⟨h.below, fun g o hg => h.own g o (hs g o hg)⟩

theorem Sep.congr {w0 w : World} {H H' : Nat → Option Obj} (h : Sep w0 w H) (hs : H' = H) : Sep w0 w H' := hs ▸ h

theorem upd_upd (H : Nat → Option Obj) (g : Nat) (o o' : Obj) : upd (upd H g o) g o' = upd H g o' := by
  funext k; unfold upd; split <;> rfl

theorem upd_comm (H : Nat → Option Obj) {g g' : Nat} (o o' : Obj) (h : g ≠ g') : upd (upd H g o) g' o' = upd (upd H g' o') g o := by
  funext k; unfold upd
  by_cases h1 : k = g <;> by_cases h2 : k = g' <;> simp_all

theorem Sep.cell {w0 w : World} {H : Nat → Option Obj} (h : Sep w0 w H) {g : Nat} {t : TypeId} {cs : Array Value} (hg : H g = some (.cells cs t (0, 0))) {i : Nat} {v : Value} (hv : cs[i]? = some v) : w.cell? ⟨g, i, Option.none⟩ = some v := by
  simp [World.cell?, (h.own g _ hg).2, hv]
theorem Sep.free {w0 w : World} {H : Nat → Option Obj} (h : Sep w0 w H) {g : Nat} {t : TypeId} {cs : Array Value} (hg : H g = some (.cells cs t (0, 0))) (i : Nat) : w.frozen? ⟨g, i, Option.none⟩ = false := by
  simp [World.frozen?, (h.own g _ hg).2]


/-- A class of worlds, as a type. -/
structure Cls (p : World → Prop) : Type where
  world : World
  ok : p world

/-- A region that draws its order, each of whose operations is quiet in a class of worlds: one walk, in the order of the text. -/
theorem wp_region_class {P : Program} (p : World → Prop) {id : Nat} {Q : Exit → Act → World → Prop} {a : Act} {w : World} {l : List Oper} (hm : P.follows .mixedOrders = true) (hB : Region.lexB .any l.toArray = true)
    (h0 : p w.drew) (h : wpQuiet P l.toArray (fun w' => ∃ x : Cls p, w' = x.world) (fun a' => ∀ w', (∃ x : Cls p, w' = x.world) → Q .normal a' w') l a) : (Code.region id l.toArray true).wp P Q a w :=
  wp_region_quiet (C := fun w' => ∃ x : Cls p, w' = x.world) hm hB ⟨⟨_, h0⟩, rfl⟩ (by simpa using h)

theorem wpOps_of_quiet {P : Program} {C : World → Prop} {ops : Array Oper} {Q : Exit → Act → World → Prop} : ∀ (rest : List Oper) (i : Nat) (a : Act) (w : World), ops.toList.drop i = rest → C w →
    wpQuiet P ops C (fun a' => ∀ w', C w' → Q .normal a' w') rest a → wpOps P ops Q (List.range' i rest.length) a w
  | [], i, a, w, _, hC, h => by
    show Q .normal a w
    exact h w hC
  | o :: rest, i, a, w, hd, hC, h => by
    have hi : ops[i]? = some o := by
      have := congrArg (fun l => l[0]?) hd
      simpa using this
    have hd' : ops.toList.drop (i + 1) = rest := by
      have := congrArg List.tail hd
      simpa using this
    rw [List.length_cons, List.range'_succ]
    simp only [wpOps, hi]
    unfold wpQuiet at h
    by_cases hw : Region.wanted o (yielded ops a.tmps) = true
    · rw [if_pos hw] at h
      rw [if_pos hw]
      exact .inl (Oper.wp_of_quiet hC (fun a' w' hC' hq => wpOps_of_quiet rest (i + 1) a' w' hd' hC' hq) h)
    · rw [if_neg hw] at h
      rw [if_neg hw]
      exact wpOps_of_quiet rest (i + 1) _ w hd' hC h

/-- A region in its one order, walked in a class of worlds. -/
theorem wp_region_plain {P : Program} (p : World → Prop) {id : Nat} {Q : Exit → Act → World → Prop} {a : Act} {w : World} {l : List Oper}
    (h0 : p w) (h : wpQuiet P l.toArray (fun w' => ∃ x : Cls p, w' = x.world) (fun a' => ∀ w', (∃ x : Cls p, w' = x.world) → Q .normal a' w') l a) : (Code.region id l.toArray false).wp P Q a w := by
  refine wp_region ?_
  have := wpOps_of_quiet (P := P) (C := fun w' => ∃ x : Cls p, w' = x.world) (ops := l.toArray) (Q := Q) l 0 a w (by simp) ⟨⟨w, h0⟩, rfl⟩ h
  rw [List.size_toArray, List.range_eq_range']
  exact this

theorem cls_call {P : Program} {p : World → Prop} {x : Cls p} {f : FuncId} {args : Array Value} {v : Value} (h : Calls P f args x.world fun e w' => e = .returned v ∧ p w') :
    Calls P f args x.world fun e w'' => e = .returned v ∧ ∃ y : Cls p, w'' = y.world :=
  h.mono fun e w' ⟨he, hp⟩ => ⟨he, ⟨⟨w', hp⟩, rfl⟩⟩

end Go.Proofs.Ytniiefcbiapieaa
