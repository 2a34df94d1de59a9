/- Do of Links, whatever is asked. -/
import Derived.Test.YtniiefcbiapieaaDo
namespace Go.Proofs.Ytniiefcbiapieaa
open Go.RowKit Go.ChangeMaps

theorem same_do {w0 : World} {γ : Nat → Option (Nat × Obj)} {b gl : Nat} {x : Int} {s : LS} {e : Ending} {w' : World} (h : doSame w0 γ b gl x s e w') : doPost w0 γ b gl (x, 0, 0, s) e w' := h

theorem linkDo_any {w0 w : World} {γ : Nat → Option (Nat × Obj)} {b gl : Nat} {s : LS} (h : LAt w0 γ b gl s w) (h10 : s.ls.length ≤ 10) (hage : ∀ i, i < s.ls.length → (s.en i).age < 999) {d t : Int} (hd : Fits d) (ht : Fits t) (k dm pk op a b' v : Int) :
    Calls Try.prog 41 #[.pointer (some ⟨gl, 0, none⟩), .int .i64 d, .int .i64 t, .agg #[.int .i64 k, .int .i64 dm, .int .i64 pk, .int .i64 op, .int .i64 a, .int .i64 b', .int .i64 v]] w (doPost w0 γ b gl (doR s d t op a b' v)) := by
  unfold doR
  by_cases h1 : op < 27
  · rw [if_pos (.inl h1)]
    exact (do_low h d t k dm pk op a b' v h1).mono fun _ _ => same_do
  by_cases h2 : 34 < op
  · rw [if_pos (.inr h2)]
    exact (do_high h d t k dm pk op a b' v h2).mono fun _ _ => same_do
  rw [if_neg (by omega)]
  by_cases hm : mayE s.ls d op a = 0
  · rw [if_neg (by simpa using hm)]
    -- the link is there
    have hr : ¬ (a < 0 ∨ (s.ls.length : Int) ≤ a) := by
      intro hr
      rw [mayE, if_pos hr] at hm
      cases hm
    obtain ⟨j, rfl⟩ : ∃ j : Nat, a = j := ⟨a.toNat, by omega⟩
    have hj : j < s.ls.length := by omega
    have hl : s.ls[j]? = some s.ls[j] := List.getElem?_eq_getElem hj
    have hm' := hm
    unfold mayE at hm'
    rw [if_neg hr, Int.toNat_natCast, hl] at hm'
    dsimp only at hm'
    have hkind : (s.ls[j].kind = 1) = (op ≤ 32) := by
      by_cases e : (s.ls[j].kind = 1) = (op ≤ 32)
      · exact e
      · rw [if_pos e] at hm'
        cases hm'
    obtain ⟨u, _, hend⟩ := LinksAt.at_ h hl
    have ha := hage j hj
    rw [Int.toNat_natCast]
    generalize s.ls[j] = l at *
    cases he : s.en j with
    | cell c =>
      rw [he] at hend ha
      have h32 : op ≤ 32 := by rw [← hkind]; exact hend.1
      dsimp only
      by_cases h30 : 30 ≤ op
      · rw [if_pos h30]
        exact do_read h h10 d t k dm pk op b' v hl he h30 h32 hd ht rfl hm
      · rw [if_neg h30]
        exact (do_write h h10 d t k dm pk op b' v hl he ha (by omega) (by omega) hm).mono fun _ _ => same_do
    | tap z all next =>
      rw [he] at hend ha
      have h32 : ¬ op ≤ 32 := by rw [← hkind]; exact hend.1
      dsimp only
      have ha' : all.length < 1000 := by have : all.length < 999 := ha; omega
      by_cases h33 : op = 33
      · subst h33
        rw [if_pos rfl]
        exact (do_send h h10 d t k dm pk b' v hl he ha' hm).mono fun _ _ => same_do
      · have h34 : op = 34 := by omega
        subst h34
        rw [if_neg h33]
        exact do_recv h h10 d t k dm pk b' v hl he ha' hm
  · rw [if_pos hm]
    exact (do_no h h10 d t k dm pk op a b' v (by omega) (by omega) _ rfl hm).mono fun _ _ => same_do
end Go.Proofs.Ytniiefcbiapieaa
