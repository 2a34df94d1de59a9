/- Two links that those below cannot tell apart. -/
import Derived.Test.YtniiefcbiapieaaNewAll
namespace Go.Proofs.Ytniiefcbiapieaa
open Go.RowKit Go.ChangeMaps

def SameEnd : EndS → EndS → Prop
  | .cell c, .cell c' => c = c'
  | .tap z all _, .tap z' all' _ => z = z' ∧ all = all'
  | _, _ => False
structure QRel (sl sm : LS) : Prop where
  ls : sm.ls = sl.ls
  en : ∀ i, SameEnd (sl.en i) (sm.en i)

theorem SameEnd.refl (e : EndS) : SameEnd e e := by cases e <;> simp [SameEnd]
theorem QRel.refl (s : LS) : QRel s s := ⟨rfl, fun _ => SameEnd.refl _⟩

/-- A link is a cell just where its kind is 1. -/
def Kinds (s : LS) : Prop := ∀ (j : Nat) l, s.ls[j]? = some l → ((l.kind = 1) ↔ ∃ c, s.en j = .cell c)
theorem LAt.kinds {w0 w : World} {γ : Nat → Option (Nat × Obj)} {b gl : Nat} {s : LS} (h : LAt w0 γ b gl s w) : Kinds s := by
  intro j l hl
  obtain ⟨u, _, he⟩ := LinksAt.at_ h hl
  cases hj : s.en j with
  | cell c => rw [hj] at he; exact ⟨fun _ => ⟨c, rfl⟩, fun _ => he.1⟩
  | tap z all n => rw [hj] at he; exact ⟨fun hk => absurd hk he.1, fun ⟨c, hc⟩ => by cases hc⟩

theorem may_link {ls : List LinkS} {d op a : Int} (h : mayE ls d op a = 0) : ∃ l, ls[a.toNat]? = some l ∧ ((l.kind = 1) = (op ≤ 32)) ∧ d = (if upB op then l.from_ else l.to) ∧ 0 ≤ a ∧ a < ls.length := by
  have hr := mayE_zero h
  have hj : a.toNat < ls.length := by omega
  refine ⟨ls[a.toNat], List.getElem?_eq_getElem hj, ?_⟩
  unfold mayE at h
  rw [if_neg (by omega), List.getElem?_eq_getElem hj] at h
  dsimp only at h
  generalize ls[a.toNat] = l at *
  by_cases e : (l.kind = 1) = (op ≤ 32)
  · by_cases e2 : d = (if upB op then l.from_ else l.to)
    · exact ⟨e, e2, hr⟩
    · rw [if_neg (by simpa using e), if_pos e2] at h; cases h
  · rw [if_pos e] at h; cases h

theorem updE_same {en em : Nat → EndS} {k : Nat} {x y : EndS} (h : ∀ i, SameEnd (en i) (em i)) (hx : SameEnd x y) : ∀ i, SameEnd (updE en k x i) (updE em k y i) := by
  intro i
  unfold updE
  split
  · exact hx
  · exact h i
theorem updE_left {en em : Nat → EndS} {k : Nat} {x : EndS} (h : ∀ i, SameEnd (en i) (em i)) (hx : SameEnd x (em k)) : ∀ i, SameEnd (updE en k x i) (em i) := by
  intro i
  unfold updE
  split
  · rename_i e; rw [e]; exact hx
  · exact h i

/-- Who is below is told the same. -/
theorem QRel.below {sl sm : LS} (h : QRel sl sm) (hk : Kinds sl) {d t op a b v : Int} (hop : op ≤ 29 ∨ op = 33) :
    ∃ e n m sl' sm', doR sl d t op a b v = (e, n, m, sl') ∧ doR sm d t op a b v = (e, n, m, sm') ∧ QRel sl' sm' ∧ (op = 33 → n = 0 ∧ m = 0) := by
  unfold doR
  by_cases hr : op < 27 ∨ 34 < op
  · rw [if_pos hr, if_pos hr]; exact ⟨_, _, _, _, _, rfl, rfl, h, fun _ => ⟨rfl, rfl⟩⟩
  · rw [if_neg hr, if_neg hr, h.ls]
    by_cases hm : mayE sl.ls d op a = 0
    · rw [if_neg (by simpa using hm), if_neg (by simpa using hm)]
      obtain ⟨l, hl, hkind, _⟩ := may_link hm
      have he := h.en a.toNat
      have hkk := hk _ _ hl
      cases e1 : sl.en a.toNat with
      | cell c =>
        cases e2 : sm.en a.toNat with
        | cell c' =>
          rw [e1, e2] at he
          have : c = c' := he
          subst this
          have h32 : op ≤ 32 := by rw [← hkind]; exact hkk.2 ⟨c, e1⟩
          dsimp only
          rw [if_neg (by omega), if_neg (by omega)]
          exact ⟨_, _, _, _, _, rfl, rfl, ⟨rfl, updE_same h.en (SameEnd.refl _)⟩, fun h => by omega⟩
        | tap z all n => rw [e1, e2] at he; exact he.elim
      | tap z all n =>
        cases e2 : sm.en a.toNat with
        | cell c' => rw [e1, e2] at he; exact he.elim
        | tap z' all' n' =>
          rw [e1, e2] at he
          obtain ⟨rfl, rfl⟩ := he
          have h32 : ¬ op ≤ 32 := by
            rw [← hkind]
            intro hk1
            obtain ⟨c, hc⟩ := hkk.1 hk1
            rw [e1] at hc; cases hc
          have h33 : op = 33 := by omega
          dsimp only
          rw [if_pos h33, if_pos h33]
          exact ⟨_, _, _, _, _, rfl, rfl, ⟨rfl, updE_same h.en ⟨rfl, rfl⟩⟩, fun _ => ⟨rfl, rfl⟩⟩
    · rw [if_pos hm, if_pos hm]; exact ⟨_, _, _, _, _, rfl, rfl, h, fun _ => ⟨rfl, rfl⟩⟩

/-- Who is above changes nothing that those below see. -/
theorem QRel.above {sl sm : LS} (h : QRel sl sm) {d t op a b v : Int} (h1 : 29 < op) (h2 : op ≠ 33) : QRel (doR sl d t op a b v).2.2.2 sm := by
  unfold doR
  by_cases hr : op < 27 ∨ 34 < op
  · rw [if_pos hr]; exact h
  · rw [if_neg hr]
    by_cases hm : mayE sl.ls d op a = 0
    · rw [if_neg (by simpa using hm)]
      have hs := h.en a.toNat
      cases e1 : sl.en a.toNat with
      | tap z all next =>
        dsimp only
        rw [if_neg h2]
        refine ⟨h.ls, updE_left h.en ?_⟩
        rw [e1] at hs
        cases e2 : sm.en a.toNat with
        | cell c => rw [e2] at hs; exact hs.elim
        | tap z' all' n' => rw [e2] at hs; exact hs
      | cell c =>
        dsimp only
        rw [if_pos (by omega)]
        exact ⟨h.ls, h.en⟩
    · rw [if_pos hm]; exact h
end Go.Proofs.Ytniiefcbiapieaa
