/- Objects by name: where each lies, and what it holds. -/
import Derived.Test.YtniiefcbiapieaaHeap
import Derived.Test.YtniiefcbiapieaaEach
namespace Go.Proofs.Ytniiefcbiapieaa
open Go.RowKit

def put (γ : Nat → Option (Nat × Obj)) (t g : Nat) (o : Obj) : Nat → Option (Nat × Obj) := fun k => if k = t then some (g, o) else γ k
theorem put_same (γ : Nat → Option (Nat × Obj)) (t g : Nat) (o : Obj) : put γ t g o t = some (g, o) := by simp [put]
theorem put_other (γ : Nat → Option (Nat × Obj)) {t k : Nat} (g : Nat) (o : Obj) (h : k ≠ t) : put γ t g o k = γ k := by simp [put, h]

/-- What lay below is as it was; each named object lies behind it, no two at one place. -/
structure Own (w0 w : World) (γ : Nat → Option (Nat × Obj)) : Prop where
  below : Below w0.heap.size w0 w
  own : ∀ t g o, γ t = some (g, o) → w0.heap.size ≤ g ∧ w.heap[g]? = some o
  inj : ∀ t t' g o o', γ t = some (g, o) → γ t' = some (g, o') → t = t'

theorem Own.start (w : World) : Own w w (fun _ => Option.none) := ⟨Below.refl _ _, fun _ _ _ h => (nomatch h), fun _ _ _ _ _ h => (nomatch h)⟩

theorem Own.lt {w0 w : World} {γ : Nat → Option (Nat × Obj)} (h : Own w0 w γ) {t g : Nat} {o : Obj} (hg : γ t = some (g, o)) : g < w.heap.size :=
  (Array.getElem?_eq_some_iff.1 (h.own t g o hg).2).1

theorem Own.below' {w0 w w' : World} {γ : Nat → Option (Nat × Obj)} (h : Own w0 w γ) (hb : Below w.heap.size w w') : Own w0 w' γ :=
  ⟨h.below.trans (hb.mono h.below.size), fun t g o hg => ⟨(h.own t g o hg).1, (hb.block g (h.lt hg)).trans (h.own t g o hg).2⟩, h.inj⟩

theorem Own.drew {w0 w : World} {γ : Nat → Option (Nat × Obj)} (h : Own w0 w γ) : Own w0 w.drew γ := h.below' ((Below.refl _ _).drew)

theorem Own.drewN {w0 w : World} {γ : Nat → Option (Nat × Obj)} (h : Own w0 w γ) (n : Nat) : Own w0 (w.drewN n) γ := h.below' ⟨rfl, rfl, rfl, Nat.le_refl _, fun _ _ => rfl⟩
theorem Own.new {w0 w : World} {γ : Nat → Option (Nat × Obj)} (h : Own w0 w γ) (t : Nat) (o : Obj) : Own w0 (w.alloc o) (put γ t w.heap.size o) := by
  have hb := h.below' ((Below.refl w.heap.size w).alloc (Nat.le_refl _) o)
  refine ⟨hb.below, fun k g o' hg => ?_, fun k k' g o1 o2 h1 h2 => ?_⟩
  · by_cases e : k = t
    · subst e
      rw [put_same] at hg
      cases hg
      exact ⟨h.below.size, by show (w.heap.push o)[w.heap.size]? = _; simp⟩
    · rw [put_other _ _ _ e] at hg
      exact hb.own k g o' hg
  · by_cases e : k = t
    · by_cases e' : k' = t
      · rw [e, e']
      · subst e
        rw [put_same] at h1
        rw [put_other _ _ _ e'] at h2
        cases h1
        have := h.lt h2
        omega
    · by_cases e' : k' = t
      · subst e'
        rw [put_same] at h2
        rw [put_other _ _ _ e] at h1
        cases h2
        have := h.lt h1
        omega
      · rw [put_other _ _ _ e] at h1
        rw [put_other _ _ _ e'] at h2
        exact h.inj k k' g o1 o2 h1 h2

/-- The object named t holds something else now. -/
theorem Own.set {w0 w : World} {γ : Nat → Option (Nat × Obj)} (h : Own w0 w γ) {t g : Nat} {ty : TypeId} {cs : Array Value} {fr : Nat × Nat} (hg : γ t = some (g, .cells cs ty fr)) (i : Nat) (u : Value) :
    Own w0 (w.setCell ⟨g, i, none⟩ u) (put γ t g (.cells (cs.setIfInBounds i u) ty fr)) := by
  have hb := (h.own t g _ hg).1
  refine ⟨h.below.setCell (p := ⟨g, i, none⟩) hb u, fun k g' o' hk => ?_, fun k k' g' o1 o2 h1 h2 => ?_⟩
  · by_cases e : k = t
    · subst e
      rw [put_same] at hk
      cases hk
      exact ⟨hb, heap_setCell_same (h.own k _ _ hg).2 i u⟩
    · rw [put_other _ _ _ e] at hk
      have hne : g' ≠ g := fun e2 => by subst e2; exact e (h.inj _ _ _ _ _ hk hg)
      exact ⟨(h.own k g' o' hk).1, (Below.heap_setCell w _ u g' hne).trans (h.own k g' o' hk).2⟩
  · by_cases e : k = t
    · by_cases e' : k' = t
      · rw [e, e']
      · subst e
        rw [put_same] at h1
        rw [put_other _ _ _ e'] at h2
        cases h1
        exact (h.inj _ _ _ _ _ h2 hg).symm
    · by_cases e' : k' = t
      · subst e'
        rw [put_same] at h2
        rw [put_other _ _ _ e] at h1
        cases h2
        exact h.inj _ _ _ _ _ h1 hg
      · rw [put_other _ _ _ e] at h1
        rw [put_other _ _ _ e'] at h2
        exact h.inj k k' g' o1 o2 h1 h2

theorem Own.cell {w0 w : World} {γ : Nat → Option (Nat × Obj)} (h : Own w0 w γ) {t g : Nat} {ty : TypeId} {cs : Array Value} (hg : γ t = some (g, .cells cs ty (0, 0))) {i : Nat} {v : Value} (hv : cs[i]? = some v) : w.cell? ⟨g, i, none⟩ = some v := by
  simp [World.cell?, (h.own t g _ hg).2, hv]
theorem Own.free {w0 w : World} {γ : Nat → Option (Nat × Obj)} (h : Own w0 w γ) {t g : Nat} {ty : TypeId} {cs : Array Value} (hg : γ t = some (g, .cells cs ty (0, 0))) (i : Nat) : w.frozen? ⟨g, i, none⟩ = false := by
  simp [World.frozen?, (h.own t g _ hg).2]
theorem Own.less {w0 w : World} {γ γ' : Nat → Option (Nat × Obj)} (h : Own w0 w γ) (hs : ∀ t x, γ' t = some x → γ t = some x) : Own w0 w γ' :=
  ⟨h.below, fun t g o hg => h.own t g o (hs t _ hg), fun t t' g o o' h1 h2 => h.inj t t' g o o' (hs _ _ h1) (hs _ _ h2)⟩
theorem Own.forget {w0 w : World} {γ : Nat → Option (Nat × Obj)} {t g : Nat} {o : Obj} (h : Own w0 w (put γ t g o)) (ht : γ t = Option.none) : Own w0 w γ :=
  h.less fun k x hk => by
    have hne : k ≠ t := fun e => by rw [e, ht] at hk; cases hk
    rw [put_other _ _ _ hne]; exact hk
theorem put_put (γ : Nat → Option (Nat × Obj)) (t g g' : Nat) (o o' : Obj) : put (put γ t g o) t g' o' = put γ t g' o' := by
  funext k; unfold put; split <;> rfl
end Go.Proofs.Ytniiefcbiapieaa
