/- What Links are: the state, and the objects that hold it. -/
import Derived.Test.YtniiefcbiapieaaLinkNew
namespace Go.Proofs.Ytniiefcbiapieaa
open Go.RowKit Go.ChangeMaps

/-- An end: a cell, or a pump and how far it was read. -/
inductive EndS where
  | cell (c : CS)
  | tap (s : Nat) (all : List Int) (next : Int)

/-- A link: its kind, from, to, size. -/
structure LinkS where
  kind : Int
  from_ : Int
  to : Int
  size : Int

def LinkS.vals (l : LinkS) : List Value := [.int .i64 l.kind, .int .i64 l.from_, .int .i64 l.to, .int .i64 l.size]
def linkVals (ls : List LinkS) : List Value := (ls.map LinkS.vals).flatten
theorem linkVals_length (ls : List LinkS) : (linkVals ls).length = ls.length * 4 := by
  induction ls with
  | nil => rfl
  | cons l ls ih =>
    have e : linkVals (l :: ls) = l.vals ++ linkVals ls := by simp [linkVals]
    rw [e, List.length_append, ih]
    simp [LinkS.vals]; omega

/-- The value v is an end, held by the objects t and t + 1. -/
def EndAt (γ : Nat → Option (Nat × Obj)) (t : Nat) (v : Value) (kind : Int) : EndS → Prop
  | .cell c => kind = 1 ∧ ∃ g, v = .iface 46 (.pointer (some ⟨g, 0, none⟩)) ∧ γ t = some (g, cellO c) ∧ c.Ok
  | .tap s all next => kind ≠ 1 ∧ ∃ g gp, v = .iface 109 (.pointer (some ⟨g, 0, none⟩)) ∧ γ t = some (g, .cells #[.pointer (some ⟨gp, 0, none⟩), .int .i64 next] 111 (0, 0)) ∧ γ (t + 1) = some (gp, pumpO s all) ∧ 1 ≤ s ∧ s ≤ 8

/-- Links, held by the objects from b on. -/
structure LinksAt (w0 : World) (γ : Nat → Option (Nat × Obj)) (b gl : Nat) (ls : List LinkS) (en : Nat → EndS) (f : Int → Int → Option (Int × Int)) (w : World) : Prop where
  own : Own w0 w γ
  top : ∃ lv ev gm es clock vs, γ b = some (gl, .cells #[lv, ev, .map (some gm)] 108 (0, 0)) ∧ γ (b + 1) = some (gm, .map es clock) ∧ MapFn es.toList f ∧
    SliceAt γ (b + 2) 78 4 lv ls.length (linkVals ls) ∧ SliceAt γ (b + 3) 20 1 ev ls.length vs ∧ ∀ i l, ls[i]? = some l → EndAt γ (b + 10 + 2 * i) (vs.getD i undef) l.kind (en i)

/-- What a call has made, besides what the caller owns. -/
def both (γ γ1 : Nat → Option (Nat × Obj)) : Nat → Option (Nat × Obj) := fun k => match γ1 k with
  | some x => some x
  | none => γ k
theorem Own.join {w0 w w' : World} {γ γ1 : Nat → Option (Nat × Obj)} (h0 : Own w0 w γ) (h1 : Own w w' γ1) : Own w0 w' (both γ γ1) := by
  have hb := h0.below' h1.below
  refine ⟨hb.below, fun k g o hk => ?_, fun k k' g o o' a a' => ?_⟩
  · unfold both at hk
    split at hk
    · rename_i x hx
      cases hk
      have := h1.own _ _ _ hx
      exact ⟨Nat.le_trans h0.below.size this.1, this.2⟩
    · exact hb.own _ _ _ hk
  · unfold both at a a'
    split at a <;> split at a'
    · rename_i x hx _ y hy
      cases a
      cases a'
      exact h1.inj _ _ _ _ _ hx hy
    · rename_i x hx _ hy
      cases a
      have e1 := (h1.own _ _ _ hx).1
      have e2 := h0.lt a'
      omega
    · rename_i hx _ x hy
      cases a'
      have e1 := (h1.own _ _ _ hy).1
      have e2 := h0.lt a
      omega
    · exact h0.inj _ _ _ _ _ a a'
end Go.Proofs.Ytniiefcbiapieaa
