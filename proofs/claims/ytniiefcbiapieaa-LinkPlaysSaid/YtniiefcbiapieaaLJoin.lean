/- New links beside what the caller owns. -/
import Derived.Test.YtniiefcbiapieaaWrt
import Derived.Test.YtniiefcbiapieaaLAwake
namespace Go.Proofs.Ytniiefcbiapieaa
open Go.RowKit Go.ChangeMaps

def beside (γ γ1 : Nat → Option (Nat × Obj)) : Nat → Option (Nat × Obj) := fun k => match γ k with
  | some x => some x
  | none => γ1 k
theorem beside_old {γ γ1 : Nat → Option (Nat × Obj)} {k : Nat} {x : Nat × Obj} (h : γ k = some x) : beside γ γ1 k = some x := by unfold beside; rw [h]
theorem beside_new {γ γ1 : Nat → Option (Nat × Obj)} {k : Nat} (h : γ k = none) : beside γ γ1 k = γ1 k := by unfold beside; rw [h]
theorem Own.beside {w0 w w' : World} {γ γ1 : Nat → Option (Nat × Obj)} (h0 : Own w0 w γ) (h1 : Own w w' γ1) : Own w0 w' (beside γ γ1) := by
  have hb := h0.below' h1.below
  refine ⟨hb.below, fun k g o hk => ?_, fun k k' g o o' a a' => ?_⟩
  · cases e : γ k with
    | some x => rw [beside_old e] at hk; cases hk; exact hb.own _ _ _ e
    | none =>
      rw [beside_new e] at hk
      have := h1.own _ _ _ hk
      exact ⟨Nat.le_trans h0.below.size this.1, this.2⟩
  · cases e : γ k with
    | some x =>
      rw [beside_old e] at a
      cases a
      cases e' : γ k' with
      | some y => rw [beside_old e'] at a'; cases a'; exact h0.inj _ _ _ _ _ e e'
      | none =>
        rw [beside_new e'] at a'
        have e1 := (h1.own _ _ _ a').1
        have e2 := h0.lt e
        omega
    | none =>
      rw [beside_new e] at a
      cases e' : γ k' with
      | some y =>
        rw [beside_old e'] at a'
        cases a'
        have e1 := (h1.own _ _ _ a).1
        have e2 := h0.lt e'
        omega
      | none => rw [beside_new e'] at a'; exact h1.inj _ _ _ _ _ a a'

theorem LinksAt.beside {w0 w w' : World} {γ γ1 : Nat → Option (Nat × Obj)} {b gl : Nat} {ls : List LinkS} {en : Nat → EndS} {f : Int → Int → Option (Int × Int)} (h0 : Own w0 w γ) (h1 : LinksAt w γ1 b gl ls en f w') (hn : ∀ k, b ≤ k → γ k = none) :
    LinksAt w0 (beside γ γ1) b gl ls en f w' := by
  obtain ⟨ho, lv, ev, gm, es, clock, vs, a0, a1, a2, a3, a4, a5⟩ := h1
  refine ⟨h0.beside ho, lv, ev, gm, es, clock, vs, by rw [beside_new (hn _ (by omega))]; exact a0, by rw [beside_new (hn _ (by omega))]; exact a1, a2, a3.keep (beside_new (hn _ (by omega))), a4.keep (beside_new (hn _ (by omega))), fun i l hi => (a5 i l hi).keep (beside_new (hn _ (by omega))) (beside_new (hn _ (by omega)))⟩

/-- A second pair of links beside. -/
theorem LinksAt.old {w0 w w' : World} {γ γ1 : Nat → Option (Nat × Obj)} {b gl : Nat} {ls : List LinkS} {en : Nat → EndS} {f : Int → Int → Option (Int × Int)} (h0 : LinksAt w0 γ b gl ls en f w) (h1 : Own w w' γ1) :
    LinksAt w0 (Go.Proofs.Ytniiefcbiapieaa.beside γ γ1) b gl ls en f w' := by
  obtain ⟨ho, lv, ev, gm, es, clock, vs, a0, a1, a2, a3, a4, a5⟩ := h0
  refine ⟨ho.beside h1, lv, ev, gm, es, clock, vs, beside_old a0, beside_old a1, a2, ?_, ?_, fun i l hi => ?_⟩
  · refine ⟨a3.1, ?_⟩
    rcases a3.2 with hn | ⟨g, cap, cur, h1, h2, r⟩
    · exact .inl hn
    · exact .inr ⟨g, cap, cur, h1, beside_old h2, r⟩
  · refine ⟨a4.1, ?_⟩
    rcases a4.2 with hn | ⟨g, cap, cur, h1, h2, r⟩
    · exact .inl hn
    · exact .inr ⟨g, cap, cur, h1, beside_old h2, r⟩
  · have h := a5 i l hi
    generalize en i = e at *
    cases e with
    | cell c =>
      obtain ⟨a, g, b, c', d⟩ := h
      exact ⟨a, g, b, beside_old c', d⟩
    | tap s all next =>
      obtain ⟨a, g, gp, b, c', d, e⟩ := h
      exact ⟨a, g, gp, b, beside_old c', beside_old d, e⟩
end Go.Proofs.Ytniiefcbiapieaa
