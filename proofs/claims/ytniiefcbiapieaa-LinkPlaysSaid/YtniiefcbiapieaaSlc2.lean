/- An append to a slice that is a named object: the laws at a list and at a step of a region that draws. -/
import Derived.Test.YtniiefcbiapieaaSlc
import Derived.Deep.AppendLies
import Derived.WideShapes
namespace Go.Proofs.Ytniiefcbiapieaa
open Go.RowKit

section
variable {P : Program} {w0 w : World} {γ : Nat → Option (Nat × Obj)} {tg : Nat}

theorem run_append_O (t ty e : TypeId) (z : Value) (size bytes : Nat) (ht : P.underlying t = some (.slice e)) (hi : (P.info? e).map (fun i => (i.zero, i.size, i.bytes)) = some (some z, size, bytes)) (hzs : z.cells.size = size) (hsz : 0 < size)
    {v : Value} {n : Nat} {xs : List Value} (hown : Own w0 w γ) (hs : SliceAt γ tg e size v n xs) (ad : Addr) (m c : Nat) (news : List Value) (hl : news.length = m * size)
    (hnews : ∀ j u, news[j]? = some u → w.cell? (ad.add j) = some u) (h1 : ∀ u ∈ news, u.oneCell' = true) (hm : 0 < m) (h63 : n + m ≤ maxLen) (hbytes : (n + m) * bytes ≤ 140737488355328) :
    ∃ g cap w' γ', (Builtin.append_ #[t, t] ty #[v, .slice (some ad) m c]).run P w = .ok (.slice (some ⟨g, 0, none⟩) (n + m) cap) w' ∧
      Own w0 w' γ' ∧ SliceAt γ' tg e size (.slice (some ⟨g, 0, none⟩) (n + m) cap) (n + m) (xs ++ news) ∧ ∀ k, k ≠ tg → γ' k = γ k := by
  obtain ⟨i, h0, hz, hsize, hby⟩ := info_parts hi
  obtain ⟨g, cap, w', hr, h2, h3, h4, h5⟩ := run_append_lies (P := P) w t ty w0.heap.size e i z size bytes ht h0 hz hsize hby hzs hsz v n xs (hs.owns hown) ad m c news hl hnews h1 hm h63 hbytes hown.below.size _ rfl
  obtain ⟨γ', ho, hsl, hk⟩ := own_append hown hs rfl h2 h3 (by
    rcases h4 with h4 | h4
    · exact .inl (by rw [h4]; rfl)
    · exact .inr (by rw [h4]; rfl))
  exact ⟨g, cap, w', γ', hr, ho, hsl, hk⟩

theorem wp_append_O {o : Oper} {a : Act} {K : Act → World → Prop} {Q : Exit → Act → World → Prop} (s x : Operand) (t : TypeId)
    (ho : o.op = .call { callee := .builtin .append, args := #[s, x], argTypes := #[t, t] })
    (e : TypeId) (z : Value) (size bytes : Nat) (ht : P.underlying t = some (.slice e)) (hi : (P.info? e).map (fun i => (i.zero, i.size, i.bytes)) = some (some z, size, bytes)) (hzs : z.cells.size = size) (hsz : 0 < size)
    {v : Value} {n : Nat} {xs : List Value} (hown : Own w0 w γ) (hs : SliceAt γ tg e size v n xs) (hev : a.eval s = v) (ad : Addr) (m c : Nat) (news : List Value) (hx : a.eval x = .slice (some ad) m c) (hl : news.length = m * size)
    (hnews : ∀ j u, news[j]? = some u → w.cell? (ad.add j) = some u) (h1 : ∀ u ∈ news, u.oneCell' = true) (hm : 0 < m) (h63 : n + m ≤ maxLen) (hbytes : (n + m) * bytes ≤ 140737488355328)
    (h : ∀ g cap w' γ', Own w0 w' γ' → SliceAt γ' tg e size (.slice (some ⟨g, 0, none⟩) (n + m) cap) (n + m) (xs ++ news) → (∀ k, k ≠ tg → γ' k = γ k) → K (a.put o.dst (.slice (some ⟨g, 0, none⟩) (n + m) cap)) w') : o.wp P a w K Q := by
  obtain ⟨g, cap, w', γ', hr, h2, h3, h4⟩ := run_append_O (P := P) t o.type e z size bytes ht hi hzs hsz hown hs ad m c news hl hnews h1 hm h63 hbytes
  unfold Oper.wp execOp
  simp only [ho, resolve, invoke, builtin, Sem.run_bind, Sem.run_pure, Result.andThen_ok, List.map_toArray, List.map_cons, List.map_nil, hev, hx, hr]
  exact h g cap w' γ' h2 h3 h4

theorem wpList_append_O {ops : Array Oper} {rest : List Oper} {o : Oper} {a : Act} {Q : Exit → Act → World → Prop} (hgd : o.guard = none) (s x : Operand) (t : TypeId)
    (ho : o.op = .call { callee := .builtin .append, args := #[s, x], argTypes := #[t, t] })
    (e : TypeId) (z : Value) (size bytes : Nat) (ht : P.underlying t = some (.slice e)) (hi : (P.info? e).map (fun i => (i.zero, i.size, i.bytes)) = some (some z, size, bytes)) (hzs : z.cells.size = size) (hsz : 0 < size)
    {v : Value} {n : Nat} {xs : List Value} (hown : Own w0 w γ) (hs : SliceAt γ tg e size v n xs) (hev : a.eval s = v) (ad : Addr) (m c : Nat) (news : List Value) (hx : a.eval x = .slice (some ad) m c) (hl : news.length = m * size)
    (hnews : ∀ j u, news[j]? = some u → w.cell? (ad.add j) = some u) (h1 : ∀ u ∈ news, u.oneCell' = true) (hm : 0 < m) (h63 : n + m ≤ maxLen) (hbytes : (n + m) * bytes ≤ 140737488355328)
    (h : ∀ g cap w' γ', Own w0 w' γ' → SliceAt γ' tg e size (.slice (some ⟨g, 0, none⟩) (n + m) cap) (n + m) (xs ++ news) → (∀ k, k ≠ tg → γ' k = γ k) → wpList P ops Q rest (a.put o.dst (.slice (some ⟨g, 0, none⟩) (n + m) cap)) w') : wpList P ops Q (o :: rest) a w :=
  wpList_plain hgd fun _ hK => wp_append_O s x t ho e z size bytes ht hi hzs hsz hown hs hev ad m c news hx hl hnews h1 hm h63 hbytes fun g cap w' γ' h2 h3 h4 => hK _ _ (h g cap w' γ' h2 h3 h4)

/-- At a step of a region that draws its order. -/
theorem step_append_O {ops : Array Oper} {o : Oper} {a : Act} {K : Act → World → Prop} {Q : Exit → Act → World → Prop} {E : Prop} (hgd : o.guard = none) (s x : Operand) (t : TypeId)
    (ho : o.op = .call { callee := .builtin .append, args := #[s, x], argTypes := #[t, t] })
    (e : TypeId) (z : Value) (size bytes : Nat) (ht : P.underlying t = some (.slice e)) (hi : (P.info? e).map (fun i => (i.zero, i.size, i.bytes)) = some (some z, size, bytes)) (hzs : z.cells.size = size) (hsz : 0 < size)
    {v : Value} {n : Nat} {xs : List Value} (hown : Own w0 w γ) (hs : SliceAt γ tg e size v n xs) (hev : a.eval s = v) (ad : Addr) (m c : Nat) (news : List Value) (hx : a.eval x = .slice (some ad) m c) (hl : news.length = m * size)
    (hnews : ∀ j u, news[j]? = some u → w.cell? (ad.add j) = some u) (h1 : ∀ u ∈ news, u.oneCell' = true) (hm : 0 < m) (h63 : n + m ≤ maxLen) (hbytes : (n + m) * bytes ≤ 140737488355328)
    (h : ∀ g cap w' γ', Own w0 w' γ' → SliceAt γ' tg e size (.slice (some ⟨g, 0, none⟩) (n + m) cap) (n + m) (xs ++ news) → (∀ k, k ≠ tg → γ' k = γ k) → K (a.put o.dst (.slice (some ⟨g, 0, none⟩) (n + m) cap)) w') :
    if Region.wanted o (yielded ops a.tmps) = true then Oper.wp P o a w K Q else E := by
  rw [if_pos (by simp [Region.wanted, hgd])]
  exact wp_append_O s x t ho e z size bytes ht hi hzs hsz hown hs hev ad m c news hx hl hnews h1 hm h63 hbytes h

/-- The one new cell lies in a block that was just made. -/
theorem news_one {w : World} {u : Value} {e : TypeId} : ∀ j x, [u][j]? = some x → (w.alloc (.cells #[u] e)).cell? ((⟨w.heap.size, 0, none⟩ : Addr).add j) = some x := by
  intro j x hj
  cases j with
  | zero =>
    simp at hj; subst hj
    show (w.alloc (.cells #[u] e)).cell? ⟨w.heap.size, 0, none⟩ = _
    have h : (w.alloc (.cells #[u] e)).heap[w.heap.size]? = some (.cells #[u] e) := by show (w.heap.push _)[w.heap.size]? = _; simp
    simp only [World.cell?, h]; rfl
  | succ j => simp at hj
theorem news_at {w : World} {u : Value} {e : TypeId} {H : Nat} (h : w.heap.size = H) : ∀ j x, [u][j]? = some x → (w.alloc (.cells #[u] e)).cell? ((⟨H, 0, none⟩ : Addr).add j) = some x := by
  subst h; exact news_one
end
end Go.Proofs.Ytniiefcbiapieaa
