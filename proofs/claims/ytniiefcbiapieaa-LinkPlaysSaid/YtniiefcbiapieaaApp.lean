/- Appends to a slice that is a named object, out of whatever slice, empty and nil ones too. -/
import Derived.Test.YtniiefcbiapieaaSlc2
import Derived.Laws.OwnMore
namespace Go.Proofs.Ytniiefcbiapieaa
open Go.RowKit

/-- The slice sv reads as m elements (news: their cells) in w. -/
def Reads (w : World) (size : Nat) (sv : Value) (m : Nat) (news : List Value) : Prop :=
  (sv = .slice none 0 0 ∧ m = 0 ∧ news = []) ∨
  ∃ ad c, sv = .slice (some ad) m c ∧ news.length = m * size ∧ (∀ j u, news[j]? = some u → w.cell? (ad.add j) = some u) ∧ ∀ u ∈ news, u.oneCell' = true

theorem Reads.keep {w w' : World} {size : Nat} {sv : Value} {m : Nat} {news : List Value} (h : Reads w size sv m news) (hk : ∀ p u, w.cell? p = some u → w'.cell? p = some u) : Reads w' size sv m news := by
  rcases h with h | ⟨ad, c, h1, h2, h3, h4⟩
  · exact .inl h
  · exact .inr ⟨ad, c, h1, h2, fun j u hj => hk _ _ (h3 j u hj), h4⟩

section
variable {P : Program} {w0 w : World} {γ : Nat → Option (Nat × Obj)} {tg : Nat}

theorem run_append_V (t ty e : TypeId) (z : Value) (size bytes : Nat) (ht : P.underlying t = some (.slice e)) (hi : (P.info? e).map (fun i => (i.zero, i.size, i.bytes)) = some (some z, size, bytes)) (hzs : z.cells.size = size) (hsz : 0 < size)
    {v : Value} {n : Nat} {xs : List Value} (hown : Own w0 w γ) (hs : SliceAt γ tg e size v n xs) {sv : Value} {m : Nat} {news : List Value} (hr : Reads w size sv m news) (h63 : n + m ≤ maxLen) (hbytes : (n + m) * bytes ≤ 140737488355328) :
    ∃ A cap w' γ', (Builtin.append_ #[t, t] ty #[v, sv]).run P w = .ok (.slice A (n + m) cap) w' ∧ (A = none → n + m = 0 ∧ cap = 0) ∧
      Own w0 w' γ' ∧ SliceAt γ' tg e size (.slice A (n + m) cap) (n + m) (xs ++ news) ∧ ∀ k, k ≠ tg → γ' k = γ k := by
  obtain ⟨i, h0, hz, hsize, hby⟩ := info_parts hi
  have hnil : ∀ {γ' : Nat → Option (Nat × Obj)} {A cap}, SliceAt γ' tg e size (.slice A (n + m) cap) (n + m) (xs ++ news) → A = none → n + m = 0 ∧ cap = 0 := by
    intro γ' A cap h hA
    subst hA
    rcases h.2 with ⟨h1, h2⟩ | ⟨g, c, cur, h1, _⟩
    · simp only [Value.slice.injEq] at h1; exact ⟨h2, h1.2.2⟩
    · cases h1
  rcases hr with ⟨rfl, rfl, rfl⟩ | ⟨ad, c, rfl, hl, hnews, h1⟩
  · obtain ⟨A, cap, rfl, _⟩ := hs.form
    have := run_append_owned_none (P := P) (w := w) w0.heap.size t ty e i size ht h0 _ n xs (hs.owns hown)
    refine ⟨A, cap, w, γ, this, fun hA => hnil (by simpa using hs) hA, hown, by simpa using hs, fun _ _ => rfl⟩
  · obtain ⟨v', w', hr, h2, h3, _, h5⟩ := run_append_own_at (P := P) w w0.heap.size t ty e i z size bytes ht h0 hz hsize hby hzs hsz v n xs (hs.owns hown) ad m c news hl hnews h1 h63 hbytes hown.below.size
    obtain ⟨γ', ho, hsl, hk⟩ := own_append hown hs rfl h2 h3 h5
    obtain ⟨A, cap, rfl, _⟩ := hsl.form
    exact ⟨A, cap, w', γ', hr, hnil hsl, ho, hsl, hk⟩

theorem wp_append_V {o : Oper} {a : Act} {K : Act → World → Prop} {Q : Exit → Act → World → Prop} (s x : Operand) (t : TypeId)
    (ho : o.op = .call { callee := .builtin .append, args := #[s, x], argTypes := #[t, t] })
    (e : TypeId) (z : Value) (size bytes : Nat) (ht : P.underlying t = some (.slice e)) (hi : (P.info? e).map (fun i => (i.zero, i.size, i.bytes)) = some (some z, size, bytes)) (hzs : z.cells.size = size) (hsz : 0 < size)
    {v : Value} {n : Nat} {xs : List Value} (hown : Own w0 w γ) (hs : SliceAt γ tg e size v n xs) (hev : a.eval s = v) {sv : Value} {m : Nat} {news : List Value} (hr : Reads w size sv m news) (hx : a.eval x = sv) (h63 : n + m ≤ maxLen) (hbytes : (n + m) * bytes ≤ 140737488355328)
    (h : ∀ A cap w' γ', (A = none → n + m = 0 ∧ cap = 0) → Own w0 w' γ' → SliceAt γ' tg e size (.slice A (n + m) cap) (n + m) (xs ++ news) → (∀ k, k ≠ tg → γ' k = γ k) → K (a.put o.dst (.slice A (n + m) cap)) w') : o.wp P a w K Q := by
  obtain ⟨A, cap, w', γ', hrun, h1, h2, h3, h4⟩ := run_append_V (P := P) t o.type e z size bytes ht hi hzs hsz hown hs hr h63 hbytes
  unfold Oper.wp execOp
  simp only [ho, resolve, invoke, builtin, Sem.run_bind, Sem.run_pure, Result.andThen_ok, List.map_toArray, List.map_cons, List.map_nil, hev, hx, hrun]
  exact h A cap w' γ' h1 h2 h3 h4

theorem wpList_append_V {ops : Array Oper} {rest : List Oper} {o : Oper} {a : Act} {Q : Exit → Act → World → Prop} (hgd : o.guard = none) (s x : Operand) (t : TypeId)
    (ho : o.op = .call { callee := .builtin .append, args := #[s, x], argTypes := #[t, t] })
    (e : TypeId) (z : Value) (size bytes : Nat) (ht : P.underlying t = some (.slice e)) (hi : (P.info? e).map (fun i => (i.zero, i.size, i.bytes)) = some (some z, size, bytes)) (hzs : z.cells.size = size) (hsz : 0 < size)
    {v : Value} {n : Nat} {xs : List Value} (hown : Own w0 w γ) (hs : SliceAt γ tg e size v n xs) (hev : a.eval s = v) {sv : Value} {m : Nat} {news : List Value} (hr : Reads w size sv m news) (hx : a.eval x = sv) (h63 : n + m ≤ maxLen) (hbytes : (n + m) * bytes ≤ 140737488355328)
    (h : ∀ A cap w' γ', (A = none → n + m = 0 ∧ cap = 0) → Own w0 w' γ' → SliceAt γ' tg e size (.slice A (n + m) cap) (n + m) (xs ++ news) → (∀ k, k ≠ tg → γ' k = γ k) → wpList P ops Q rest (a.put o.dst (.slice A (n + m) cap)) w') : wpList P ops Q (o :: rest) a w :=
  wpList_plain hgd fun _ hK => wp_append_V s x t ho e z size bytes ht hi hzs hsz hown hs hev hr hx h63 hbytes fun A cap w' γ' h1 h2 h3 h4 => hK _ _ (h A cap w' γ' h1 h2 h3 h4)

/-- What lies in a named slice is read from it, whole or in part. -/
theorem SliceAt.reads {e : TypeId} {size n : Nat} {v : Value} {xs : List Value} (hs : SliceAt γ tg e size v n xs) (ho : Own w0 w γ) (h1 : ∀ u ∈ xs, u.oneCell' = true) : Reads w size v n xs := by
  rcases hs.2 with ⟨rfl, rfl⟩ | ⟨g, cap, cur, rfl, h2, h3, h4, h5, h6⟩
  · exact .inl ⟨rfl, rfl, List.eq_nil_of_length_eq_zero (by simpa using hs.1)⟩
  · refine .inr ⟨_, cap, rfl, hs.1, fun j u hj => ?_, h1⟩
    have e0 : (⟨g, 0, none⟩ : Addr).add j = ⟨g, j, none⟩ := by rw [Go.WideShapes.add_plain, Nat.zero_add]
    rw [e0]
    refine ho.cell h2 ?_
    rw [← h6, List.getElem?_take] at hj
    split at hj
    · simpa using hj
    · cases hj
theorem SliceAt.part {e : TypeId} {size n : Nat} {g cap : Nat} {xs : List Value} (hs : SliceAt γ tg e size (.slice (some ⟨g, 0, none⟩) n cap) n xs) (ho : Own w0 w γ) (h1 : ∀ u ∈ xs, u.oneCell' = true) (i m c off : Nat) (him : i + m ≤ n) (hoff : m = 0 ∨ off = i * size) :
    Reads w size (.slice (some ⟨g, off, none⟩) m c) m ((xs.drop (i * size)).take (m * size)) := by
  refine .inr ⟨_, c, rfl, ?_, fun j u hj => ?_, fun u hu => h1 u (List.mem_of_mem_drop (List.mem_of_mem_take hu))⟩
  · rw [List.length_take, List.length_drop, hs.1]
    have : (i + m) * size ≤ n * size := Nat.mul_le_mul_right _ him
    rw [Nat.add_mul] at this
    omega
  · rw [List.getElem?_take] at hj
    split at hj
    · rename_i hlt
      rw [List.getElem?_drop] at hj
      have hm : off = i * size := by
        rcases hoff with h | h
        · subst h; simp at hlt
        · exact h
      subst hm
      rcases hs.2 with ⟨h0, _⟩ | ⟨g', cap', cur, h0, h2, h3, h4, h5, h6⟩
      · cases h0
      · cases h0
        rw [Go.WideShapes.add_plain]
        refine ho.cell h2 ?_
        rw [← h6, List.getElem?_take] at hj
        split at hj
        · simpa using hj
        · cases hj
    · cases hj
end
end Go.Proofs.Ytniiefcbiapieaa
