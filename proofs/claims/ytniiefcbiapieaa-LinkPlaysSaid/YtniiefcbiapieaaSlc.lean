/- Slices that a call owns, as named objects; an append to one. -/
import Derived.Test.YtniiefcbiapieaaOwn
import Derived.Maps.AppendAt
import Derived.OwnWalk
namespace Go.Proofs.Ytniiefcbiapieaa
open Go.RowKit

/-- The slice v, of n elements of size cells, holds xs; its array is the object t (or it is nil). -/
def SliceAt (γ : Nat → Option (Nat × Obj)) (t : Nat) (e : TypeId) (size : Nat) (v : Value) (n : Nat) (xs : List Value) : Prop :=
  xs.length = n * size ∧ ((v = .slice none 0 0 ∧ n = 0) ∨
    ∃ g cap cur, v = .slice (some ⟨g, 0, none⟩) n cap ∧ γ t = some (g, .cells cur e (0, 0)) ∧ n ≤ cap ∧ cap ≤ maxLen ∧ cur.size = cap * size ∧ cur.toList.take (n * size) = xs)

section
variable {w0 w : World} {γ : Nat → Option (Nat × Obj)} {t : Nat} {e : TypeId} {size n : Nat} {v : Value} {xs : List Value}

theorem SliceAt.nil (γ : Nat → Option (Nat × Obj)) (t : Nat) (e : TypeId) (size : Nat) : SliceAt γ t e size (.slice none 0 0) 0 [] := ⟨by simp, .inl ⟨rfl, rfl⟩⟩

theorem SliceAt.owns (hs : SliceAt γ t e size v n xs) (h : Own w0 w γ) : w.ownsRow w0.heap.size e size v n xs := by
  refine ⟨hs.1, ?_⟩
  rcases hs.2 with hn | ⟨g, cap, cur, h1, h2, h3, h4, h5, h6⟩
  · exact .inl hn
  · exact .inr ⟨g, cap, cur, h1, (h.own _ _ _ h2).1, (h.own _ _ _ h2).2, h3, h4, h5, h6⟩

theorem SliceAt.keep {γ' : Nat → Option (Nat × Obj)} (hs : SliceAt γ t e size v n xs) (hk : γ' t = γ t) : SliceAt γ' t e size v n xs := by
  refine ⟨hs.1, ?_⟩
  rcases hs.2 with hn | ⟨g, cap, cur, h1, h2, r⟩
  · exact .inl hn
  · exact .inr ⟨g, cap, cur, h1, by rw [hk]; exact h2, r⟩

theorem SliceAt.form (hs : SliceAt γ t e size v n xs) : ∃ A cap, v = .slice A n cap ∧ n ≤ cap := by
  rcases hs.2 with ⟨rfl, rfl⟩ | ⟨g, cap, cur, rfl, _, h3, _⟩
  · exact ⟨_, _, rfl, Nat.le_refl _⟩
  · exact ⟨_, _, rfl, h3⟩

/-- An element of one cell. -/
theorem SliceAt.at_ (hs : SliceAt γ t e 1 v n xs) (h : Own w0 w γ) {i : Nat} (hi : i < n) : ∃ g cap, v = .slice (some ⟨g, 0, none⟩) n cap ∧ w.cell? ⟨g, i, none⟩ = some (xs.getD i undef) := by
  rcases hs.2 with ⟨_, h0⟩ | ⟨g, cap, cur, rfl, h2, h3, h4, h5, h6⟩
  · omega
  · refine ⟨g, cap, rfl, h.cell h2 ?_⟩
    have hlen : i < xs.length := by rw [hs.1]; omega
    have : cur.toList.take (n * 1) = xs := h6
    rw [List.getD_eq_getElem?_getD, List.getElem?_eq_getElem hlen, Option.getD_some]
    have hx : xs[i]? = some xs[i] := List.getElem?_eq_getElem hlen
    rw [← hx]
    have h7 : (cur.toList.take (n * 1))[i]? = xs[i]? := by rw [this]
    rw [← h7, List.getElem?_take, if_pos (by omega)]
    simp

/-- Behind an append. -/
theorem own_append {w' : World} {v' : Value} {m : Nat} {news : List Value} {base : Nat} (h : Own w0 w γ) (hs : SliceAt γ t e size v n xs) (hb : base = w0.heap.size)
    (hr : w'.ownsRow base e size v' (n + m) (xs ++ news)) (hg : w.grownBy w' v.ownBlock) (hat : v'.ownBlock = v.ownBlock ∨ v'.ownBlock = some w.heap.size) :
    ∃ γ', Own w0 w' γ' ∧ SliceAt γ' t e size v' (n + m) (xs ++ news) ∧ ∀ k, k ≠ t → γ' k = γ k := by
  -- the one block that may have been written is the object's own
  have hrow : ∀ k, v.ownBlock = some k → ∃ o, γ t = some (k, o) := by
    intro k hk
    rcases hs.2 with ⟨rfl, _⟩ | ⟨g, cap, cur, rfl, h2, _⟩
    · simp [Value.ownBlock] at hk
    · simp [Value.ownBlock] at hk
      subst hk
      exact ⟨_, h2⟩
  have hbelow : Below w0.heap.size w0 w' := h.below.grown hg h.below.size fun k hk => by
    obtain ⟨o, ho⟩ := hrow k hk
    exact (h.own _ _ _ ho).1
  have hother : ∀ k g o, k ≠ t → γ k = some (g, o) → w'.heap[g]? = some o := by
    intro k g o hk ho
    refine (hg.block g (h.lt ho) fun e1 => ?_).trans (h.own _ _ _ ho).2
    obtain ⟨o2, ho2⟩ := hrow g e1.symm
    exact hk (h.inj _ _ _ _ _ ho ho2)
  rcases hr.2 with ⟨hv, hn⟩ | ⟨g, cap, cur, hv, hgb, hgg, h3, h4, h5, h6⟩
  · refine ⟨fun k => if k = t then none else γ k, ⟨hbelow, fun k g o hk => ?_, fun k k' g o o' h1 h2 => ?_⟩, ⟨hr.1, .inl ⟨hv, hn⟩⟩, fun k hk => if_neg hk⟩
    · by_cases ek : k = t
      · simp [ek] at hk
      · simp only [if_neg ek] at hk
        exact ⟨(h.own _ _ _ hk).1, hother k g o ek hk⟩
    · by_cases ek : k = t
      · simp [ek] at h1
      · by_cases ek' : k' = t
        · simp [ek'] at h2
        · simp only [if_neg ek] at h1
          simp only [if_neg ek'] at h2
          exact h.inj _ _ _ _ _ h1 h2
  · have hne : ∀ k o, k ≠ t → γ k ≠ some (g, o) := by
      intro k o hk ho
      subst hv
      simp only [Value.ownBlock] at hat
      rcases hat with hat | hat
      · obtain ⟨o2, ho2⟩ := hrow g hat.symm
        exact hk (h.inj _ _ _ _ _ ho ho2)
      · cases hat
        have := h.lt ho
        omega
    refine ⟨put γ t g (.cells cur e (0, 0)), ⟨hbelow, fun k g' o hk => ?_, fun k k' g' o o' h1 h2 => ?_⟩, ⟨hr.1, .inr ⟨g, cap, cur, hv, put_same _ _ _ _, h3, h4, h5, h6⟩⟩, fun k hk => put_other _ _ _ hk⟩
    · by_cases ek : k = t
      · subst ek
        rw [put_same] at hk
        cases hk
        exact ⟨hb ▸ hgb, hgg⟩
      · rw [put_other _ _ _ ek] at hk
        exact ⟨(h.own _ _ _ hk).1, hother k g' o ek hk⟩
    · by_cases ek : k = t
      · by_cases ek' : k' = t
        · rw [ek, ek']
        · subst ek
          rw [put_same] at h1
          rw [put_other _ _ _ ek'] at h2
          cases h1
          exact absurd h2 (hne _ _ ek')
      · by_cases ek' : k' = t
        · subst ek'
          rw [put_same] at h2
          rw [put_other _ _ _ ek] at h1
          cases h2
          exact absurd h1 (hne _ _ ek)
        · rw [put_other _ _ _ ek] at h1
          rw [put_other _ _ _ ek'] at h2
          exact h.inj _ _ _ _ _ h1 h2
end

def ints (l : List Int) : List Value := l.map (Value.int .i64)
theorem ints_length (l : List Int) : (ints l).length = l.length := by simp [ints]
theorem ints_snoc (l : List Int) (x : Int) : ints l ++ [.int .i64 x] = ints (l ++ [x]) := by simp [ints]
theorem ints_get (l : List Int) (i : Nat) (h : i < l.length) : (ints l).getD i undef = .int .i64 (l.getD i 0) := by
  simp [ints, List.getD_eq_getElem?_getD, h]
end Go.Proofs.Ytniiefcbiapieaa
