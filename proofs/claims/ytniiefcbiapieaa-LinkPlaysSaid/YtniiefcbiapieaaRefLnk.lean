/- The reference's links: what holds them; which read a task has; does it write. -/
import Derived.Test.YtniiefcbiapieaaRefCel2
import Derived.Test.YtniiefcbiapieaaNewAll
import Derived.Test.YtniiefcbiapieaaWrt
namespace Go.Proofs.Ytniiefcbiapieaa
open Go.RowKit Go.ChangeMaps

/-- The reads of the reference are what f says (a read: domain, task, link, number, as LinkS). -/
structure RelF (f : Int → Int → Option (Int × Int)) (rd : List LinkS) : Prop where
  each : ∀ x ∈ rd, f x.kind x.from_ = some (x.to, x.size)
  all : ∀ d t l q, f d t = some (l, q) → ∃ x ∈ rd, x.kind = d ∧ x.from_ = t
  apart : rd.Pairwise (fun x y => ¬ (x.kind = y.kind ∧ x.from_ = y.from_))

def isRd (d t : Int) (x : LinkS) : Bool := (x.kind == d) && (x.from_ == t)
def atI (rd : List LinkS) (d t : Int) : Int := match rd.findIdx? (isRd d t) with
  | some i => i
  | none => -1

theorem RelF.no {f : Int → Int → Option (Int × Int)} {rd : List LinkS} (h : RelF f rd) {d t : Int} (hn : ∀ x ∈ rd, isRd d t x = false) : f d t = Option.none := by
  cases hf : f d t with
  | none => rfl
  | some y =>
    obtain ⟨x, hx, h1, h2⟩ := h.all d t y.1 y.2 hf
    have := hn x hx
    simp [isRd, h1, h2] at this
theorem RelF.at_ {f : Int → Int → Option (Int × Int)} {rd : List LinkS} (h : RelF f rd) {d t : Int} {i : Nat} {x : LinkS} (hi : rd[i]? = some x) (hx : isRd d t x = true) : f d t = Option.some (x.to, x.size) := by
  simp [isRd] at hx
  have := h.each x (List.mem_of_getElem? hi)
  rw [hx.1, hx.2] at this
  exact this
theorem RelF.del {f : Int → Int → Option (Int × Int)} {rd : List LinkS} (h : RelF f rd) {d t : Int} {i : Nat} {x : LinkS} (hi : rd[i]? = some x) (hx : isRd d t x = true) : RelF (fnDel f d t) (rd.take i ++ rd.drop (i + 1)) := by
  have hlt : i < rd.length := (List.getElem?_eq_some_iff.1 hi).1
  have hx' : x.kind = d ∧ x.from_ = t := by simpa [isRd] using hx
  have hsplit : rd = rd.take i ++ (x :: rd.drop (i + 1)) := by
    have e : rd[i] = x := (List.getElem?_eq_some_iff.1 hi).2
    rw [← e, ← List.drop_eq_getElem_cons hlt, List.take_append_drop]
  have hap := h.apart
  rw [hsplit, List.pairwise_append] at hap
  obtain ⟨p1, p2, p3⟩ := hap
  rw [List.pairwise_cons] at p2
  have hne : ∀ y ∈ rd.take i ++ rd.drop (i + 1), ¬ (y.kind = d ∧ y.from_ = t) := by
    intro y hy
    rw [List.mem_append] at hy
    rcases hy with hy | hy
    · have := p3 y hy x (by simp)
      rw [hx'.1, hx'.2] at this
      exact this
    · have := p2.1 y hy
      rw [hx'.1, hx'.2] at this
      exact fun h => this ⟨h.1.symm, h.2.symm⟩
  have hmem : ∀ y ∈ rd.take i ++ rd.drop (i + 1), y ∈ rd := by
    intro y hy
    rw [List.mem_append] at hy
    rcases hy with hy | hy
    · exact List.mem_of_mem_take hy
    · exact List.mem_of_mem_drop hy
  refine ⟨fun y hy => ?_, fun d' t' l q hf => ?_, ?_⟩
  · unfold fnDel
    rw [if_neg (hne y hy)]
    exact h.each y (hmem y hy)
  · unfold fnDel at hf
    split at hf
    · cases hf
    · rename_i hno
      obtain ⟨y, hy, h1, h2⟩ := h.all d' t' l q hf
      rw [hsplit, List.mem_append, List.mem_cons] at hy
      refine ⟨y, ?_, h1, h2⟩
      rw [List.mem_append]
      rcases hy with hy | rfl | hy
      · exact .inl hy
      · exact absurd ⟨h1.symm.trans hx'.1, h2.symm.trans hx'.2⟩ hno
      · exact .inr hy
  · rw [List.pairwise_append]
    exact ⟨p1, p2.2, fun a ha b hb => p3 a ha b (by simp [hb])⟩
theorem RelF.same {f : Int → Int → Option (Int × Int)} {rd : List LinkS} (h : RelF f rd) {d t : Int} (hn : f d t = Option.none) : RelF (fnDel f d t) rd := by
  have : fnDel f d t = f := by
    funext d' t'
    unfold fnDel
    split
    · rename_i hh; rw [hh.1, hh.2, hn]
    · rfl
  rw [this]
  exact h
theorem RelF.put {f : Int → Int → Option (Int × Int)} {rd : List LinkS} (h : RelF f rd) {d t : Int} (hn : f d t = Option.none) (l q : Int) : RelF (fnPut f d t l q) (rd ++ [⟨d, t, l, q⟩]) := by
  have hne : ∀ x ∈ rd, ¬ (x.kind = d ∧ x.from_ = t) := by
    intro x hx hh
    have := h.each x hx
    rw [hh.1, hh.2, hn] at this
    cases this
  refine ⟨fun x hx => ?_, fun d' t' l' q' hf => ?_, ?_⟩
  · rw [List.mem_append] at hx
    unfold fnPut
    rcases hx with hx | hx
    · rw [if_neg (hne x hx)]; exact h.each x hx
    · simp at hx; subst hx; rw [if_pos ⟨rfl, rfl⟩]
  · unfold fnPut at hf
    split at hf
    · rename_i hh
      exact ⟨⟨d, t, l, q⟩, by simp, hh.1.symm, hh.2.symm⟩
    · obtain ⟨x, hx, h1, h2⟩ := h.all d' t' l' q' hf
      exact ⟨x, by simp [hx], h1, h2⟩
  · rw [List.pairwise_append]
    refine ⟨h.apart, by simp, fun a ha b hb => ?_⟩
    simp at hb
    subst hb
    exact hne a ha
theorem RelF.nil : RelF (fun _ _ => Option.none) [] := ⟨fun _ h => (nomatch h), fun _ _ _ _ h => (nomatch h), .nil⟩

/-- What the reference holds at a link: a cell and a pump; the one that counts is the link's end. -/
def RefEnd (γ : Nat → Option (Nat × Obj)) (t : Nat) (vc vp : Value) (nx : Int) (l : LinkS) (e : EndS) : Prop :=
  ∃ gc gp c z all, vc = .pointer (some ⟨gc, 0, none⟩) ∧ vp = .pointer (some ⟨gp, 0, none⟩) ∧ RefC γ t (t + 1) gc c ∧ c.Ok ∧ RefP γ (t + 2) (t + 3) gp z all ∧ 1 ≤ z ∧ z ≤ 8 ∧ all.length < 1000 ∧
    match e with
    | .cell c' => l.kind = 1 ∧ c = c'
    | .tap z' all' next' => l.kind ≠ 1 ∧ z = z' ∧ all = all' ∧ nx = next'
theorem RefEnd.keep {γ γ' : Nat → Option (Nat × Obj)} {t : Nat} {vc vp : Value} {nx : Int} {l : LinkS} {e : EndS} (h : RefEnd γ t vc vp nx l e) (hk : ∀ k, t ≤ k → k < t + 4 → γ' k = γ k) : RefEnd γ' t vc vp nx l e := by
  obtain ⟨gc, gp, c, z, all, h1, h2, h3, h4, h5, h6⟩ := h
  exact ⟨gc, gp, c, z, all, h1, h2, h3.keep (hk _ (by omega) (by omega)) (hk _ (by omega) (by omega)), h4, h5.keep (hk _ (by omega) (by omega)) (hk _ (by omega) (by omega)), h6⟩

/-- The reference's links that fit a state, held by the objects from r on; at most q reads. -/
def RefL (w0 : World) (γ : Nat → Option (Nat × Obj)) (r gr : Nat) (A : Option Addr) (cap q : Nat) (s : LS) (w : World) : Prop :=
  Own w0 w γ ∧ LinksIn w0 A cap s.ls ∧ ∃ cv pv nv rv vc vp nx rd, γ r = some (gr, .cells #[.slice A s.ls.length cap, cv, pv, nv, rv] 123 (0, 0)) ∧
    SliceAt γ (r + 1) 48 1 cv s.ls.length vc ∧ SliceAt γ (r + 2) 25 1 pv s.ls.length vp ∧ SliceAt γ (r + 3) 3 1 nv s.ls.length (ints nx) ∧ SliceAt γ (r + 4) 126 4 rv rd.length (linkVals rd) ∧ RelF s.f rd ∧ rd.length ≤ q ∧
    ∀ i l, s.ls[i]? = some l → RefEnd γ (r + 10 + 4 * i) (vc.getD i undef) (vp.getD i undef) (nx.getD i 0) l (s.en i)

section
variable {w0 w : World} {γ : Nat → Option (Nat × Obj)} {r gr cap q : Nat} {A : Option Addr} {s : LS}

theorem RefL.own (h : RefL w0 γ r gr A cap q s w) : Own w0 w γ := h.1
theorem RefL.keep {γ' : Nat → Option (Nat × Obj)} {w' : World} (h : RefL w0 γ r gr A cap q s w) (ho : Own w0 w' γ') (hk : ∀ k, (r ≤ k ∧ k < r + 5) ∨ (r + 10 ≤ k ∧ k < r + 10 + 4 * s.ls.length) → γ' k = γ k) : RefL w0 γ' r gr A cap q s w' := by
  obtain ⟨_, hin, cv, pv, nv, rv, vc, vp, nx, rd, h0, h1, h2, h3, h4, h5, h6, h7⟩ := h
  refine ⟨ho, hin, cv, pv, nv, rv, vc, vp, nx, rd, by rw [hk _ (by omega)]; exact h0, h1.keep (hk _ (by omega)), h2.keep (hk _ (by omega)), h3.keep (hk _ (by omega)), h4.keep (hk _ (by omega)), h5, h6, fun i l hi => (h7 i l hi).keep fun k _ _ => hk k ?_⟩
  have := (List.getElem?_eq_some_iff.1 hi).1
  omega
theorem RefL.below' {w' : World} (h : RefL w0 γ r gr A cap q s w) (hb : Below w.heap.size w w') : RefL w0 γ r gr A cap q s w' := h.keep (h.1.below' hb) fun _ _ => rfl
theorem RefL.more {q' : Nat} (h : RefL w0 γ r gr A cap q s w) (hq : q ≤ q') : RefL w0 γ r gr A cap q' s w := by
  obtain ⟨ho, hin, cv, pv, nv, rv, vc, vp, nx, rd, h0, h1, h2, h3, h4, h5, h6, h7⟩ := h
  exact ⟨ho, hin, cv, pv, nv, rv, vc, vp, nx, rd, h0, h1, h2, h3, h4, h5, by omega, h7⟩

theorem isRd_of {d t : Int} {x : LinkS} (h1 : x.kind = d) (h2 : x.from_ = t) : isRd d t x = true := by simp [isRd, h1, h2]
theorem isRd_no1 {d t : Int} {x : LinkS} (h1 : x.kind ≠ d) : isRd d t x = false := by simp [isRd, h1]
theorem isRd_no2 {d t : Int} {x : LinkS} (h1 : x.from_ ≠ t) : isRd d t x = false := by simp [isRd, h1]

theorem atI_none {rd : List LinkS} {d t : Int} (h : ∀ (j : Nat) x, rd[j]? = some x → isRd d t x = false) : atI rd d t = -1 := by
  unfold atI
  have : rd.findIdx? (isRd d t) = none := by
    rw [List.findIdx?_eq_none_iff]
    intro x hx
    obtain ⟨j, hj⟩ := List.mem_iff_getElem?.1 hx
    exact h j x hj
  rw [this]
theorem atI_some {rd : List LinkS} {d t : Int} {i : Nat} {x : LinkS} (hi : rd[i]? = some x) (hx : isRd d t x = true) (h : ∀ (j : Nat) y, j < i → rd[j]? = some y → isRd d t y = false) : atI rd d t = i := by
  unfold atI
  have : rd.findIdx? (isRd d t) = some i := by
    rw [List.findIdx?_eq_some_iff_getElem]
    obtain ⟨hlt, he⟩ := List.getElem?_eq_some_iff.1 hi
    refine ⟨hlt, by rw [he]; exact hx, fun j hj => ?_⟩
    have := h j rd[j] hj (List.getElem?_eq_getElem (by omega))
    simp [this]
  rw [this]

set_option maxRecDepth 100000 in
set_option maxHeartbeats 2000000 in
/-- Which read a task has. -/
theorem refAt_any {g n : Nat} {rd : List LinkS} {c : Nat} {cv pv nv lv : Value} (ho : Own w0 w γ) (h0 : γ r = some (gr, .cells #[lv, cv, pv, nv, .slice (some ⟨g, 0, none⟩) n c] 123 (0, 0))) (h4 : SliceAt γ (r + 4) 126 4 (.slice (some ⟨g, 0, none⟩) n c) n (linkVals rd)) (hn : rd.length = n) (hq : n ≤ 10000) (d t : Int) :
    Calls Try.prog 62 #[.pointer (some ⟨gr, 0, none⟩), .int .i64 d, .int .i64 t] w fun e w' => e = .returned (.int .i64 (atI rd d t)) ∧ w = w' := by
  have c4 := ho.cell h0 (i := 4) rfl
  have hcell : ∀ k, k < n → ∃ x, rd[k]? = some x ∧ w.cell? ⟨g, k * 4, none⟩ = some (.int .i64 x.kind) ∧ w.cell? ⟨g, k * 4 + 1, none⟩ = some (.int .i64 x.from_) := by
    intro k hk
    obtain ⟨g1, cap1, hv, _, c1⟩ := h4.row ho (by omega)
    cases hv
    have hx : rd[k]? = some rd[k] := List.getElem?_eq_getElem (by omega)
    exact ⟨_, hx, c1 (k * 4 + 0) _ (linkVals_get hx 0 (by omega)), c1 (k * 4 + 1) _ (linkVals_get hx 1 (by omega))⟩
  have HC := Lib.hid hcell
  have HN : Hid (∀ m, (∀ j y, j < m → rd[j]? = some y → isRd d t y = false) → m = n → atI rd d t = -1) := Lib.hid fun m h e => atI_none fun j x hj => h j x (by have := (List.getElem?_eq_some_iff.1 hj).1; omega) hj
  have HS : Hid (∀ (i : Nat) x, rd[i]? = some x → isRd d t x = true → (∀ j y, j < i → rd[j]? = some y → isRd d t y = false) → atI rd d t = i) := Lib.hid fun i x h1 h2 h3 => atI_some h1 h2 h3
  generalize atI rd d t = res at *
  clear hcell h4 h0 ho hn
  go_enter Try.func62, Try.ntmps62
  go_wp2_with fail
  go_loop [7] (fun i => ∃ k : Nat, i = .int .i64 k ∧ k ≤ n ∧ Hid (∀ j y, j < k → rd[j]? = some y → isRd d t y = false)) (fun i => n - (intOf i).toNat)
  case atStart => exact ⟨0, rfl, by omega, Lib.hid fun j y hj => by omega⟩
  case round =>
    obtain ⟨k, rfl, hk, hno⟩ := hrel
    by_cases hlt : k < n
    · obtain ⟨x, hx, x0, x1⟩ := HC.out k hlt
      have HX := Lib.hid hx
      clear hx
      by_cases e1 : x.kind = d
      · by_cases e2 : x.from_ = t
        · have hres := Lib.hid (HS.out k x HX.out (isRd_of e1 e2) hno.out)
          have b1 : (x.kind == d) = true := by simpa using e1
          have b2 : (x.from_ == t) = true := by simpa using e2
          clear e1 e2
          generalize x.kind = xk at *
          generalize x.from_ = xf at *
          go_wp2_with fail
          go_ret
          exact ⟨by rw [hres.out]; rfl, rfl⟩
        · have hno' : Hid (∀ j y, j < k + 1 → rd[j]? = some y → isRd d t y = false) := Lib.hid fun j y hj hy => by
            by_cases e : j = k
            · subst e; rw [HX.out] at hy; cases hy; exact isRd_no2 e2
            · exact hno.out j y (by omega) hy
          have b1 : (x.kind == d) = true := by simpa using e1
          have b2 : (x.from_ == t) = false := by simpa using e2
          clear e1 e2
          generalize x.kind = xk at *
          generalize x.from_ = xf at *
          go_wp2_with fail
          go_round
          case rel => exact ⟨k + 1, by go_num, by omega, hno'⟩
          case measure => simp [intOf]; omega
      · have hno' : Hid (∀ j y, j < k + 1 → rd[j]? = some y → isRd d t y = false) := Lib.hid fun j y hj hy => by
          by_cases e : j = k
          · subst e; rw [HX.out] at hy; cases hy; exact isRd_no1 e1
          · exact hno.out j y (by omega) hy
        have b1 : (x.kind == d) = false := by simpa using e1
        clear e1
        generalize x.kind = xk at *
        go_wp2_with fail
        go_round
        case rel => exact ⟨k + 1, by go_num, by omega, hno'⟩
        case measure => simp [intOf]; omega
    · obtain rfl : k = n := by omega
      have hres := Lib.hid (HN.out k hno.out rfl)
      go_wp2_with fail
      go_ret
      exact ⟨by rw [hres.out]; rfl, rfl⟩

/-- No reads at all. -/
theorem refAt_nil {cv pv nv lv : Value} (ho : Own w0 w γ) (h0 : γ r = some (gr, .cells #[lv, cv, pv, nv, .slice none 0 0] 123 (0, 0))) (d t : Int) :
    Calls Try.prog 62 #[.pointer (some ⟨gr, 0, none⟩), .int .i64 d, .int .i64 t] w fun e w' => e = .returned (.int .i64 (-1)) ∧ w = w' := by
  have c4 := ho.cell h0 (i := 4) rfl
  clear h0 ho
  go_enter Try.func62, Try.ntmps62
  go_wp2_with fail
  go_loop [7] (fun i => i = .int .i64 0) (fun i => 0)
  case atStart => rfl
  case round =>
    subst hrel
    go_wp2_with fail
    go_ret
    exact ⟨rfl, rfl⟩
end
end Go.Proofs.Ytniiefcbiapieaa
