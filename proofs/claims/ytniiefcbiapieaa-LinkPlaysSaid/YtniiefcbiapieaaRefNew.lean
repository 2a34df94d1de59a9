/- The reference's New. -/
import Derived.Test.YtniiefcbiapieaaRefDo
import Derived.Test.YtniiefcbiapieaaPlan
namespace Go.Proofs.Ytniiefcbiapieaa
open Go.RowKit Go.ChangeMaps Go.WideShapes
theorem enters27 : enters Try.prog 27 = true := by kernel_rfl
theorem enters19 : enters Try.prog 19 = true := by kernel_rfl
theorem Try.info48 : (Try.prog.info? 48).map (fun i => (i.zero, i.size, i.bytes)) = some (some (.pointer none), 1, 8) := by kernel_rfl
theorem Try.info25 : (Try.prog.info? 25).map (fun i => (i.zero, i.size, i.bytes)) = some (some (.pointer none), 1, 8) := by kernel_rfl

/-- How a round of New stands: s of its six steps are done; b: the new number's block is made. -/
structure NSt (w0 : World) (G : Nat → Option (Nat × Obj)) (r k : Nat) (sz : Int) (vc vp : List Value) (nx : List Int) (cv pv nv : Value) (s : Nat) (b : Bool) (gc g5 gp g7 g8 : Nat) (cv' pv' : Value) (w : World) (γ : Nat → Option (Nat × Obj)) : Prop where
  own : Own w0 w γ
  rest : ∀ t, t ≠ r + 1 → t ≠ r + 2 → t ≠ r + 3 → t ≠ r + 5 → t ≠ r + 7 → t ≠ r + 8 → (t < r + 10 + 4 * k ∨ r + 14 + 4 * k ≤ t) → γ t = G t
  c1 : 1 ≤ s → RefC γ (r + 10 + 4 * k) (r + 11 + 4 * k) gc (CS.new (clampC sz))
  c2 : 2 ≤ s → γ (r + 5) = some (g5, .cells #[.pointer (some ⟨gc, 0, none⟩)] 48 (0, 0))
  a1 : s < 3 → SliceAt γ (r + 1) 48 1 cv k vc
  b1 : 3 ≤ s → SliceAt γ (r + 1) 48 1 cv' (k + 1) (vc ++ [.pointer (some ⟨gc, 0, none⟩)])
  p1 : 4 ≤ s → RefP γ (r + 12 + 4 * k) (r + 13 + 4 * k) gp (clampN 8 sz) []
  p2 : 5 ≤ s → γ (r + 7) = some (g7, .cells #[.pointer (some ⟨gp, 0, none⟩)] 25 (0, 0))
  a2 : s < 6 → SliceAt γ (r + 2) 25 1 pv k vp
  b2 : 6 ≤ s → SliceAt γ (r + 2) 25 1 pv' (k + 1) (vp ++ [.pointer (some ⟨gp, 0, none⟩)])
  a3 : SliceAt γ (r + 3) 3 1 nv k (ints nx)
  n : b = true → γ (r + 8) = some (g8, .cells #[.int .i64 0] 3 (0, 0))

section
variable {w0 w w' : World} {G γ γ' : Nat → Option (Nat × Obj)} {r k : Nat} {sz : Int} {vc vp : List Value} {nx : List Int} {cv pv nv : Value} {b : Bool} {gc g5 gp g7 g8 : Nat} {cv' pv' : Value}

theorem NSt.cell (h : NSt w0 G r k sz vc vp nx cv pv nv 0 b gc g5 gp g7 g8 cv' pv' w γ) {gc1 : Nat} (ho : Own w0 w' γ') (hk : ∀ t, t ≠ r + 10 + 4 * k → t ≠ r + 11 + 4 * k → γ' t = γ t) (hC : RefC γ' (r + 10 + 4 * k) (r + 11 + 4 * k) gc1 (CS.new (clampC sz))) : NSt w0 G r k sz vc vp nx cv pv nv 1 b gc1 g5 gp g7 g8 cv' pv' w' γ' :=
  ⟨ho, fun t h1 h2 h3 h4 h5 h6 h7 => (hk t (by omega) (by omega)).trans (h.rest t h1 h2 h3 h4 h5 h6 h7), fun _ => hC, fun hs => absurd hs (by omega), fun hs => (h.a1 (by omega)).keep (hk _ (by omega) (by omega)), fun hs => absurd hs (by omega), fun hs => absurd hs (by omega), fun hs => absurd hs (by omega), fun hs => (h.a2 (by omega)).keep (hk _ (by omega) (by omega)), fun hs => absurd hs (by omega), h.a3.keep (hk _ (by omega) (by omega)), fun hb => (hk _ (by omega) (by omega)).trans (h.n hb)⟩
theorem NSt.celm (h : NSt w0 G r k sz vc vp nx cv pv nv 1 b gc g5 gp g7 g8 cv' pv' w γ) {g51 : Nat} (ho : Own w0 w' γ') (hk : ∀ t, t ≠ r + 5 → γ' t = γ t) (h5 : γ' (r + 5) = some (g51, .cells #[.pointer (some ⟨gc, 0, none⟩)] 48 (0, 0))) : NSt w0 G r k sz vc vp nx cv pv nv 2 b gc g51 gp g7 g8 cv' pv' w' γ' :=
  ⟨ho, fun t h1 h2 h3 h4 h5 h6 h7 => (hk t (by omega)).trans (h.rest t h1 h2 h3 h4 h5 h6 h7), fun hs => (h.c1 (by omega)).keep (hk _ (by omega)) (hk _ (by omega)), fun _ => h5, fun hs => (h.a1 (by omega)).keep (hk _ (by omega)), fun hs => absurd hs (by omega), fun hs => absurd hs (by omega), fun hs => absurd hs (by omega), fun hs => (h.a2 (by omega)).keep (hk _ (by omega)), fun hs => absurd hs (by omega), h.a3.keep (hk _ (by omega)), fun hb => (hk _ (by omega)).trans (h.n hb)⟩
theorem NSt.capp (h : NSt w0 G r k sz vc vp nx cv pv nv 2 b gc g5 gp g7 g8 cv' pv' w γ) {cv1 : Value} (ho : Own w0 w' γ') (hk : ∀ t, t ≠ r + 1 → γ' t = γ t) (h1' : SliceAt γ' (r + 1) 48 1 cv1 (k + 1) (vc ++ [.pointer (some ⟨gc, 0, none⟩)])) : NSt w0 G r k sz vc vp nx cv pv nv 3 b gc g5 gp g7 g8 cv1 pv' w' γ' :=
  ⟨ho, fun t h1 h2 h3 h4 h5 h6 h7 => (hk t (by omega)).trans (h.rest t h1 h2 h3 h4 h5 h6 h7), fun hs => (h.c1 (by omega)).keep (hk _ (by omega)) (hk _ (by omega)), fun hs => (hk _ (by omega)).trans (h.c2 (by omega)), fun hs => absurd hs (by omega), fun _ => h1', fun hs => absurd hs (by omega), fun hs => absurd hs (by omega), fun hs => (h.a2 (by omega)).keep (hk _ (by omega)), fun hs => absurd hs (by omega), h.a3.keep (hk _ (by omega)), fun hb => (hk _ (by omega)).trans (h.n hb)⟩
theorem NSt.pump (h : NSt w0 G r k sz vc vp nx cv pv nv 3 b gc g5 gp g7 g8 cv' pv' w γ) {gp1 : Nat} (ho : Own w0 w' γ') (hk : ∀ t, t ≠ r + 12 + 4 * k → γ' t = γ t) (hP : RefP γ' (r + 12 + 4 * k) (r + 13 + 4 * k) gp1 (clampN 8 sz) []) : NSt w0 G r k sz vc vp nx cv pv nv 4 b gc g5 gp1 g7 g8 cv' pv' w' γ' :=
  ⟨ho, fun t h1 h2 h3 h4 h5 h6 h7 => (hk t (by omega)).trans (h.rest t h1 h2 h3 h4 h5 h6 h7), fun hs => (h.c1 (by omega)).keep (hk _ (by omega)) (hk _ (by omega)), fun hs => (hk _ (by omega)).trans (h.c2 (by omega)), fun hs => absurd hs (by omega), fun hs => (h.b1 (by omega)).keep (hk _ (by omega)), fun _ => hP, fun hs => absurd hs (by omega), fun hs => (h.a2 (by omega)).keep (hk _ (by omega)), fun hs => absurd hs (by omega), h.a3.keep (hk _ (by omega)), fun hb => (hk _ (by omega)).trans (h.n hb)⟩
theorem NSt.pelm (h : NSt w0 G r k sz vc vp nx cv pv nv 4 b gc g5 gp g7 g8 cv' pv' w γ) {g71 : Nat} (ho : Own w0 w' γ') (hk : ∀ t, t ≠ r + 7 → γ' t = γ t) (h7 : γ' (r + 7) = some (g71, .cells #[.pointer (some ⟨gp, 0, none⟩)] 25 (0, 0))) : NSt w0 G r k sz vc vp nx cv pv nv 5 b gc g5 gp g71 g8 cv' pv' w' γ' :=
  ⟨ho, fun t h1 h2 h3 h4 h5 h6 h7 => (hk t (by omega)).trans (h.rest t h1 h2 h3 h4 h5 h6 h7), fun hs => (h.c1 (by omega)).keep (hk _ (by omega)) (hk _ (by omega)), fun hs => (hk _ (by omega)).trans (h.c2 (by omega)), fun hs => absurd hs (by omega), fun hs => (h.b1 (by omega)).keep (hk _ (by omega)), fun hs => (h.p1 (by omega)).keep (hk _ (by omega)) (hk _ (by omega)), fun _ => h7, fun hs => (h.a2 (by omega)).keep (hk _ (by omega)), fun hs => absurd hs (by omega), h.a3.keep (hk _ (by omega)), fun hb => (hk _ (by omega)).trans (h.n hb)⟩
theorem NSt.papp (h : NSt w0 G r k sz vc vp nx cv pv nv 5 b gc g5 gp g7 g8 cv' pv' w γ) {pv1 : Value} (ho : Own w0 w' γ') (hk : ∀ t, t ≠ r + 2 → γ' t = γ t) (h2' : SliceAt γ' (r + 2) 25 1 pv1 (k + 1) (vp ++ [.pointer (some ⟨gp, 0, none⟩)])) : NSt w0 G r k sz vc vp nx cv pv nv 6 b gc g5 gp g7 g8 cv' pv1 w' γ' :=
  ⟨ho, fun t h1 h2 h3 h4 h5 h6 h7 => (hk t (by omega)).trans (h.rest t h1 h2 h3 h4 h5 h6 h7), fun hs => (h.c1 (by omega)).keep (hk _ (by omega)) (hk _ (by omega)), fun hs => (hk _ (by omega)).trans (h.c2 (by omega)), fun hs => absurd hs (by omega), fun hs => (h.b1 (by omega)).keep (hk _ (by omega)), fun hs => (h.p1 (by omega)).keep (hk _ (by omega)) (hk _ (by omega)), fun hs => (hk _ (by omega)).trans (h.p2 (by omega)), fun hs => absurd hs (by omega), fun _ => h2', h.a3.keep (hk _ (by omega)), fun hb => (hk _ (by omega)).trans (h.n hb)⟩
theorem NSt.next {s g81 : Nat} (h : NSt w0 G r k sz vc vp nx cv pv nv s b gc g5 gp g7 g8 cv' pv' w γ) (ho : Own w0 w' γ') (hk : ∀ t, t ≠ r + 8 → γ' t = γ t) (h8 : γ' (r + 8) = some (g81, .cells #[.int .i64 0] 3 (0, 0))) : NSt w0 G r k sz vc vp nx cv pv nv s true gc g5 gp g7 g81 cv' pv' w' γ' :=
  ⟨ho, fun t h1 h2 h3 h4 h5 h6 h7 => (hk t (by omega)).trans (h.rest t h1 h2 h3 h4 h5 h6 h7), fun hs => (h.c1 hs).keep (hk _ (by omega)) (hk _ (by omega)), fun hs => (hk _ (by omega)).trans (h.c2 hs), fun hs => (h.a1 hs).keep (hk _ (by omega)), fun hs => (h.b1 hs).keep (hk _ (by omega)),
    fun hs => (h.p1 hs).keep (hk _ (by omega)) (hk _ (by omega)), fun hs => (hk _ (by omega)).trans (h.p2 hs), fun hs => (h.a2 hs).keep (hk _ (by omega)), fun hs => (h.b2 hs).keep (hk _ (by omega)), h.a3.keep (hk _ (by omega)), fun _ => h8⟩
end

/-- New, behind k rounds. -/
def NAt (w0 : World) (γ0 : Nat → Option (Nat × Obj)) (r gr gx : Nat) (dv sv : Value) (A : Option Addr) (cap : Nat) (ls : List LinkS) (i : Value) (w : World) : Prop :=
  ∃ (k : Nat) (γ : Nat → Option (Nat × Obj)) (cv pv nv : Value) (vc vp : List Value) (nx : List Int), i = .int .i64 k ∧ k ≤ ls.length ∧ Own w0 w γ ∧ (∀ t, (t < r ∨ r + 50 ≤ t) → γ t = γ0 t) ∧
    γ r = some (gr, .cells #[.slice A ls.length cap, cv, pv, nv, .slice none 0 0] 123 (0, 0)) ∧ γ (r + 6) = some (gx, .cells #[dv, sv, .slice A ls.length cap] 68 (0, 0)) ∧
    SliceAt γ (r + 1) 48 1 cv k vc ∧ SliceAt γ (r + 2) 25 1 pv k vp ∧ SliceAt γ (r + 3) 3 1 nv k (ints nx) ∧
    ∀ i l, i < k → ls[i]? = some l → ∃ gc gp, vc.getD i undef = .pointer (some ⟨gc, 0, none⟩) ∧ vp.getD i undef = .pointer (some ⟨gp, 0, none⟩) ∧ nx.getD i 0 = 0 ∧
      RefC γ (r + 10 + 4 * i) (r + 11 + 4 * i) gc (CS.new (clampC l.size)) ∧ RefP γ (r + 12 + 4 * i) (r + 13 + 4 * i) gp (clampN 8 l.size) []

def rnPost (w0 : World) (γ0 : Nat → Option (Nat × Obj)) (r : Nat) (A : Option Addr) (cap : Nat) (ls : List LinkS) (e : Ending) (w' : World) : Prop :=
  ∃ gr γ, e = .returned (.pointer (some ⟨gr, 0, none⟩)) ∧ RefL w0 γ r gr A cap 0 (initS ls) w' ∧ ∀ t, (t < r ∨ r + 50 ≤ t) → γ t = γ0 t

theorem NAt.done {w0 w : World} {γ0 : Nat → Option (Nat × Obj)} {r gr gx cap : Nat} {dv sv : Value} {A : Option Addr} {ls : List LinkS} (hin : LinksIn w0 A cap ls) (h : NAt w0 γ0 r gr gx dv sv A cap ls (.int .i64 (ls.length : Int)) w) : rnPost w0 γ0 r A cap ls (.returned (.pointer (some ⟨gr, 0, none⟩))) w := by
  obtain ⟨k, γ, cv, pv, nv, vc, vp, nx, hk, hkl, ho, hr, h0, h6, h1, h2, h3, h4⟩ := h
  have : k = ls.length := by simp at hk; omega
  subst this
  refine ⟨gr, γ, rfl, ⟨ho, hin, cv, pv, nv, _, vc, vp, nx, [], h0, h1, h2, h3, SliceAt.nil _ _ _ _, RelF.nil, Nat.le_refl _, fun i l hi => ?_⟩, hr⟩
  have hi' : ls[i]? = some l := hi
  obtain ⟨gc, gp, e1, e2, e3, hC, hP⟩ := h4 i l (List.getElem?_eq_some_iff.1 hi').1 hi'
  have hen : (initS ls).en i = initEnd l := by
    show initEn ls i = _
    unfold initEn
    simp only [hi']
  have hz : 1 ≤ clampN 8 l.size ∧ clampN 8 l.size ≤ 8 := by unfold clampN; split <;> (try split) <;> omega
  have q1 : r + 10 + 4 * i + 1 = r + 11 + 4 * i := by omega
  have q2 : r + 10 + 4 * i + 2 = r + 12 + 4 * i := by omega
  have q3 : r + 10 + 4 * i + 3 = r + 13 + 4 * i := by omega
  refine ⟨gc, gp, _, _, [], e1, e2, by rw [q1]; exact hC, CS.Ok.new (clampC_bounds _), by rw [q2, q3]; exact hP, hz.1, hz.2, by simp, ?_⟩
  rw [hen]
  unfold initEnd
  by_cases hkd : l.kind = 1
  · rw [if_pos hkd]; exact ⟨hkd, rfl⟩
  · rw [if_neg hkd]; exact ⟨hkd, rfl, rfl, e3⟩

theorem snoc_last {α : Type} (l : List α) (x d : α) {n : Nat} (h : l.length = n) : (l ++ [x]).getD n d = x := by subst h; simp
theorem snoc_old {α : Type} (l : List α) (x d : α) {n i : Nat} (h : l.length = n) (hi : i < n) : (l ++ [x]).getD i d = l.getD i d := by
  rw [List.getD_eq_getElem?_getD, List.getD_eq_getElem?_getD, List.getElem?_append_left (by omega)]

/-- A round's end: the three stores. -/
theorem NAt.step {w0 w : World} {γ0 γ γ' : Nat → Option (Nat × Obj)} {r gr gx cap k : Nat} {dv sv cv pv nv cv' pv' nv' : Value} {A : Option Addr} {ls : List LinkS} {l : LinkS} {vc vp : List Value} {nx : List Int} {gc g5 gp g7 g8 : Nat} {w' : World}
    (hl : ls[k]? = some l) (hr : ∀ t, (t < r ∨ r + 50 ≤ t) → γ t = γ0 t) (h10 : ls.length ≤ 10) (h0 : γ r = some (gr, .cells #[.slice A ls.length cap, cv, pv, nv, .slice none 0 0] 123 (0, 0))) (h6 : γ (r + 6) = some (gx, .cells #[dv, sv, .slice A ls.length cap] 68 (0, 0)))
    (h4 : ∀ i l, i < k → ls[i]? = some l → ∃ gc gp, vc.getD i undef = .pointer (some ⟨gc, 0, none⟩) ∧ vp.getD i undef = .pointer (some ⟨gp, 0, none⟩) ∧ nx.getD i 0 = 0 ∧
      RefC γ (r + 10 + 4 * i) (r + 11 + 4 * i) gc (CS.new (clampC l.size)) ∧ RefP γ (r + 12 + 4 * i) (r + 13 + 4 * i) gp (clampN 8 l.size) [])
    (hvc : vc.length = k) (hvp : vp.length = k) (hnx : nx.length = k)
    (h : NSt w0 γ r k l.size vc vp nx cv pv nv 6 true gc g5 gp g7 g8 cv' pv' w γ') {γ2 : Nat → Option (Nat × Obj)} (ho : Own w0 w' γ2) (hk2 : ∀ t, t ≠ r + 3 → γ2 t = γ' t) (h3 : SliceAt γ2 (r + 3) 3 1 nv' (k + 1) (ints nx ++ [.int .i64 0])) :
    (∃ u, w'.cell? ⟨gr, 1, none⟩ = some u) ∧ w'.frozen? ⟨gr, 1, none⟩ = false ∧ (∃ u, (w'.setCell ⟨gr, 1, none⟩ cv').cell? ⟨gr, 2, none⟩ = some u) ∧ (w'.setCell ⟨gr, 1, none⟩ cv').frozen? ⟨gr, 2, none⟩ = false ∧
    (∃ u, ((w'.setCell ⟨gr, 1, none⟩ cv').setCell ⟨gr, 2, none⟩ pv').cell? ⟨gr, 3, none⟩ = some u) ∧ ((w'.setCell ⟨gr, 1, none⟩ cv').setCell ⟨gr, 2, none⟩ pv').frozen? ⟨gr, 3, none⟩ = false ∧
    NAt w0 γ0 r gr gx dv sv A cap ls (.int .i64 ((k + 1 : Nat) : Int)) (((w'.setCell ⟨gr, 1, none⟩ cv').setCell ⟨gr, 2, none⟩ pv').setCell ⟨gr, 3, none⟩ nv') := by
  have hkl : k < ls.length := (List.getElem?_eq_some_iff.1 hl).1
  have z0 : γ2 r = _ := (hk2 r (by omega)).trans ((h.rest r (by omega) (by omega) (by omega) (by omega) (by omega) (by omega) (by omega)).trans h0)
  have o1 := ho.set z0 1 cv'
  have o2 := o1.set (put_same _ _ _ _) 2 pv'
  have o3 := o2.set (put_same _ _ _ _) 3 nv'
  refine ⟨⟨_, ho.cell z0 (i := 1) rfl⟩, ho.free z0 1, ⟨_, o1.cell (put_same _ _ _ _) (i := 2) rfl⟩, o1.free (put_same _ _ _ _) 2, ⟨_, o2.cell (put_same _ _ _ _) (i := 3) rfl⟩, o2.free (put_same _ _ _ _) 3, ?_⟩
  rw [put_put, put_put] at o3
  have hq : ∀ t, t ≠ r → t ≠ r + 3 → (put γ2 r gr (.cells (((#[.slice A ls.length cap, cv, pv, nv, .slice none 0 0] : Array Value).setIfInBounds 1 cv').setIfInBounds 2 pv' |>.setIfInBounds 3 nv') 123 (0, 0))) t = γ' t := fun t a1 a2 => (put_other _ _ _ a1).trans (hk2 t a2)
  refine ⟨k + 1, _, cv', pv', nv', vc ++ [.pointer (some ⟨gc, 0, none⟩)], vp ++ [.pointer (some ⟨gp, 0, none⟩)], nx ++ [0], rfl, by omega, o3, fun t ht => ?_, put_same _ _ _ _, ?_, (h.b1 (by omega)).keep (hq _ (by omega) (by omega)), (h.b2 (by omega)).keep (hq _ (by omega) (by omega)), ?_, fun i l' hi hl' => ?_⟩
  · rw [hq t (by omega) (by omega), h.rest t (by omega) (by omega) (by omega) (by omega) (by omega) (by omega) (by omega)]
    exact hr t ht
  · rw [hq _ (by omega) (by omega), h.rest _ (by omega) (by omega) (by omega) (by omega) (by omega) (by omega) (by omega)]
    exact h6
  · rw [← ints_snoc]
    exact h3.keep (put_other _ _ _ (by omega))
  · by_cases e : i = k
    · subst e
      rw [hl] at hl'
      cases hl'
      exact ⟨gc, gp, snoc_last _ _ _ hvc, snoc_last _ _ _ hvp, snoc_last _ _ _ hnx, (h.c1 (by omega)).keep (hq _ (by omega) (by omega)) (hq _ (by omega) (by omega)), (h.p1 (by omega)).keep (hq _ (by omega) (by omega)) (hq _ (by omega) (by omega))⟩
    · obtain ⟨gc1, gp1, e1, e2, e3, hC, hP⟩ := h4 i l' (by omega) hl'
      have kk : ∀ t, r + 10 ≤ t → t < r + 10 + 4 * k → (put γ2 r gr (.cells (((#[.slice A ls.length cap, cv, pv, nv, .slice none 0 0] : Array Value).setIfInBounds 1 cv').setIfInBounds 2 pv' |>.setIfInBounds 3 nv') 123 (0, 0))) t = γ t := fun t a1 a2 => (hq t (by omega) (by omega)).trans (h.rest t (by omega) (by omega) (by omega) (by omega) (by omega) (by omega) (by omega))
      exact ⟨gc1, gp1, by rw [snoc_old _ _ _ hvc (by omega)]; exact e1, by rw [snoc_old _ _ _ hvp (by omega)]; exact e2, by rw [snoc_old _ _ _ hnx (by omega)]; exact e3, hC.keep (kk _ (by omega) (by omega)) (kk _ (by omega) (by omega)), hP.keep (kk _ (by omega) (by omega)) (kk _ (by omega) (by omega))⟩

set_option maxRecDepth 100000 in
set_option maxHeartbeats 32000000 in
theorem refNewL_any {w0 w : World} {γ0 : Nat → Option (Nat × Obj)} (ho : Own w0 w γ0) (r : Nat) {A : Option Addr} {cap : Nat} {ls : List LinkS} (hin : LinksIn w0 A cap ls) (hcap : ls.length ≤ cap) (dv sv : Value) :
    Calls Try.prog 44 #[.agg #[dv, sv, .slice A ls.length cap]] w (rnPost w0 γ0 r A cap ls) := by
  have h10 : ls.length ≤ 10 := hin.1
  have o1 := ho.new (r + 6) (.cells #[dv, sv, .slice A ls.length cap] 68)
  have o2 := o1.new r (.cells #[.slice A ls.length cap, .slice none 0 0, .slice none 0 0, .slice none 0 0, .slice none 0 0] 123)
  have e1 : (w.alloc (.cells #[dv, sv, .slice A ls.length cap] 68)).heap.size = w.heap.size + 1 := by simp
  rw [e1] at o2
  have hstart : NAt w0 γ0 r (w.heap.size + 1) w.heap.size dv sv A cap ls (.int .i64 0) ((w.alloc (.cells #[dv, sv, .slice A ls.length cap] 68)).alloc (.cells #[.slice A ls.length cap, .slice none 0 0, .slice none 0 0, .slice none 0 0, .slice none 0 0] 123)) :=
    ⟨0, _, _, _, _, [], [], [], rfl, by omega, o2, fun t ht => by rw [put_other _ _ _ (by omega), put_other _ _ _ (by omega)], put_same _ _ _ _, by rw [put_other _ _ _ (by omega), put_same], SliceAt.nil _ _ _ _, SliceAt.nil _ _ _ _, SliceAt.nil _ _ _ _, fun i l hi => by omega⟩
  have HST := Lib.hid hstart
  have HIN := Lib.hid hin
  clear hstart o1 o2 ho hin e1
  go_enter Try.func44, Try.ntmps44
  go_wp2_with fail
  go_loopw [4] (fun i wr => NAt w0 γ0 r (w.heap.size + 1) w.heap.size dv sv A cap ls i wr) (fun i _ => ls.length - (intOf i).toNat)
  case atStart => exact HST.out
  case round =>
    clear HST
    generalize w.heap.size + 1 = gr at *
    generalize w.heap.size = gx at *
    obtain ⟨k, G, cv, pv, nv, vc, vp, nx, rfl, hkl, ho, hr, h0, h6, h1, h2, h3, h4⟩ := hrel
    have x2 := ho.cell h6 (i := 2) (v := .slice A ls.length cap) rfl
    by_cases hlt : k < ls.length
    · have hl : ls[k]? = some ls[k] := List.getElem?_eq_getElem hlt
      obtain ⟨l, hll⟩ : ∃ l, l = ls[k] := ⟨_, rfl⟩
      rw [← hll] at hl
      clear hll
      obtain ⟨sz, hsz⟩ : ∃ z, z = l.size := ⟨_, rfl⟩
      have hvc : vc.length = k := by have := h1.1; omega
      have hvp : vp.length = k := by have := h2.1; omega
      have hnx : nx.length = k := by have := h3.1; rw [ints_length] at this; omega
      have HSTEP : Hid (∀ (gc g5 gp g7 g8 : Nat) (cv' pv' nv' : Value) (w w' : World) (γ' γ2 : Nat → Option (Nat × Obj)), NSt w0 G r k sz vc vp nx cv pv nv 6 true gc g5 gp g7 g8 cv' pv' w γ' → Own w0 w' γ2 → (∀ t, t ≠ r + 3 → γ2 t = γ' t) → SliceAt γ2 (r + 3) 3 1 nv' (k + 1) (ints nx ++ [.int .i64 0]) →
          (∃ u, w'.cell? ⟨gr, 1, none⟩ = some u) ∧ w'.frozen? ⟨gr, 1, none⟩ = false ∧ (∃ u, (w'.setCell ⟨gr, 1, none⟩ cv').cell? ⟨gr, 2, none⟩ = some u) ∧ (w'.setCell ⟨gr, 1, none⟩ cv').frozen? ⟨gr, 2, none⟩ = false ∧
          (∃ u, ((w'.setCell ⟨gr, 1, none⟩ cv').setCell ⟨gr, 2, none⟩ pv').cell? ⟨gr, 3, none⟩ = some u) ∧ ((w'.setCell ⟨gr, 1, none⟩ cv').setCell ⟨gr, 2, none⟩ pv').frozen? ⟨gr, 3, none⟩ = false ∧
          NAt w0 γ0 r gr gx dv sv A cap ls (.int .i64 ((k + 1 : Nat) : Int)) (((w'.setCell ⟨gr, 1, none⟩ cv').setCell ⟨gr, 2, none⟩ pv').setCell ⟨gr, 3, none⟩ nv')) :=
        Lib.hid fun gc g5 gp g7 g8 cv' pv' nv' w w' γ' γ2 a b c d => NAt.step hl hr h10 h0 h6 h4 hvc hvp hnx (by rw [← hsz]; exact a) b c d
      rcases HIN.out.2 with ⟨e, _⟩ | ⟨pb, off, rfl, _, hc⟩
      · rw [e] at hlt; simp at hlt
      have hq := hc _ _ (linkVals_get hl 3 (by omega))
      rw [add_plain] at hq
      have hq' : w0.cell? ⟨pb, off + k * 4 + 3, none⟩ = some (.int .i64 sz) := by rw [hsz]; exact hq
      have HS : Hid (∀ w' γ', Own w0 w' γ' → (∀ t, t ≠ r + 1 → t ≠ r + 2 → t ≠ r + 3 → t ≠ r + 5 → t ≠ r + 7 → t ≠ r + 8 → (t < r + 10 + 4 * k ∨ r + 14 + 4 * k ≤ t) → γ' t = G t) → (fun w' => w'.cell? ⟨gr, 1, none⟩ = some cv ∧ w'.cell? ⟨gr, 2, none⟩ = some pv ∧ w'.cell? ⟨gr, 3, none⟩ = some nv ∧ w'.cell? ⟨gx, 2, none⟩ = some (.slice (some ⟨pb, off, none⟩) ls.length cap) ∧ w'.cell? ⟨pb, off + k * 4 + 3, none⟩ = some (.int .i64 sz)) w') :=
        Lib.hid fun w' γ' ho' hr' => by
          have z0 : γ' r = _ := (hr' r (by omega) (by omega) (by omega) (by omega) (by omega) (by omega) (by omega)).trans h0
          have z6 : γ' (r + 6) = _ := (hr' (r + 6) (by omega) (by omega) (by omega) (by omega) (by omega) (by omega) (by omega)).trans h6
          exact ⟨ho'.cell z0 (i := 1) rfl, ho'.cell z0 (i := 2) rfl, ho'.cell z0 (i := 3) rfl, ho'.cell z6 (i := 2) rfl, (ho'.below.cell (World.block_lt_of_cell? _ _ hq')).trans hq'⟩
      obtain ⟨y1, y2, y3, y4, y5⟩ := HS.out wr G ho fun _ _ _ _ _ _ _ _ => rfl
      have hst : NSt w0 G r k sz vc vp nx cv pv nv 0 false 0 0 0 0 0 undef undef wr.drew G :=
        ⟨ho.drew, fun _ _ _ _ _ _ _ _ => rfl, fun h => absurd h (by omega), fun h => absurd h (by omega), fun _ => h1, fun h => absurd h (by omega), fun h => absurd h (by omega), fun h => absurd h (by omega), fun _ => h2, fun h => absurd h (by omega), h3, fun h => (nomatch h)⟩
      have h0' := hst
      obtain ⟨A1, cap1, rfl, _⟩ := h1.form
      obtain ⟨A2, cap2, rfl, _⟩ := h2.form
      obtain ⟨A3, cap3, rfl, _⟩ := h3.form
      have hkn : (k : Int) < ls.length := by omega
      clear ho hr h6 h1 h2 h3 h4 hl hvc hvp hnx hq hq' hsz hst x2 h0 hc
      have h0 := h0'
      clear h0'
      go_wp2_with fail
      refine Plan.region [0, 3, 4, 5, 6, 7, 8, 9, 10, 11, 12, 16, 17, 18, 19, 20, 21, 22, 23, 24, 25, 29, 30, 31, 32] (.step 1 (.step 2 (.fork 13 (.fork 14 (.fork 15 (.fork 26 (.fork 27 (.fork 28 (.step 33 (.step 34 (.step 35 (.step 36 (.step 37 (.step 38 (.step 39 (.step 40 (.step 41 (.step 42 (.step 43 .done))))))))))) 33 (.step 28 (.step 34 (.step 35 (.step 36 (.step 37 (.step 38 (.step 39 (.step 40 (.step 41 (.step 42 (.step 43 .done)))))))))))) 33 (.step 27 (.step 28 (.step 34 (.step 35 (.step 36 (.step 37 (.step 38 (.step 39 (.step 40 (.step 41 (.step 42 (.step 43 .done))))))))))))) 33 (.step 26 (.step 27 (.step 28 (.step 34 (.step 35 (.step 36 (.step 37 (.step 38 (.step 39 (.step 40 (.step 41 (.step 42 (.step 43 .done)))))))))))))) 33 (.step 15 (.step 26 (.step 27 (.step 28 (.step 34 (.step 35 (.step 36 (.step 37 (.step 38 (.step 39 (.step 40 (.step 41 (.step 42 (.step 43 .done))))))))))))))) 33 (.step 14 (.step 15 (.step 26 (.step 27 (.step 28 (.step 34 (.step 35 (.step 36 (.step 37 (.step 38 (.step 39 (.step 40 (.step 41 (.step 42 (.step 43 .done)))))))))))))))) 33 (.step 13 (.step 14 (.step 15 (.step 26 (.step 27 (.step 28 (.step 34 (.step 35 (.step 36 (.step 37 (.step 38 (.step 39 (.step 40 (.step 41 (.step 42 (.step 43 .done))))))))))))))))))) (fun w' => w'.cell? ⟨gr, 1, none⟩ = some (.slice A1 k cap1) ∧ w'.cell? ⟨gr, 2, none⟩ = some (.slice A2 k cap2) ∧ w'.cell? ⟨gr, 3, none⟩ = some (.slice A3 k cap3) ∧ w'.cell? ⟨gx, 2, none⟩ = some (.slice (some ⟨pb, off, none⟩) ls.length cap) ∧ w'.cell? ⟨pb, off + k * 4 + 3, none⟩ = some (.int .i64 sz)) (by kernel_rfl) (by kernel_rfl) (fun _ _ _ _ _ h => h) (by refine ⟨?_, ?_, ?_, ?_, ?_⟩ <;> simpa using by assumption) ?_
      repeat
        refine Perm.light_step rfl ?_ (fun w' hS => ?_) ?_
        rotate_left
        · (obtain ⟨s0, s1, s2, s3, s4⟩ := hS; go_simp; try with_reducible rfl)
        simp only [Act.put, List.getElem_toArray, List.getElem_cons_zero, List.getElem_cons_succ, List.setIfInBounds_toArray, List.set_cons_zero, List.set_cons_succ]
      refine Perm.light_nil ?_
      repeat
        refine Plan.p_pure rfl (by rfl) ?_ (fun w' => ?_) ?_
        rotate_left
        · (go_simp; try with_reducible rfl)
        simp only [Act.put, List.getElem_toArray, List.getElem_cons_zero, List.getElem_cons_succ, List.setIfInBounds_toArray, List.set_cons_zero, List.set_cons_succ]
      generalize wr.drew = W0 at *
      clear y1 y2 y3 y4 y5

      refine Plan.p_fork ?_ ?_
      · refine Plan.at_call rfl 27 _ _ rfl enters27 #[.int .i64 sz] (by rfl) ((rcNew_any h0.own (r + 10 + 4 * k) (r + 11 + 4 * k) (by omega) sz).mono ?_)
        rintro e wa1 ⟨gc, ga1, rfl, ho1, hC1, hk1⟩
        have h1 := h0.cell ho1 hk1 hC1
        clear h0 ho1 hC1 hk1
        refine ⟨_, rfl, (fun _ _ => HS.out _ _ h1.own h1.rest), ?_⟩
        simp only [Act.put, List.getElem_toArray, List.getElem_cons_zero, List.getElem_cons_succ, List.setIfInBounds_toArray, List.set_cons_zero, List.set_cons_succ]
        refine Plan.p_fork ?_ ?_
        · have h2 := h1.celm (h1.own.new (r + 5) (.cells #[.pointer (some ⟨gc, 0, none⟩)] 48)) (fun t ht => put_other _ _ _ ht) (put_same _ _ _ _)
          refine Plan.at_run rfl (.value (.slice (some ⟨wa1.heap.size, 0, none⟩) 1 1)) _ (.inl rfl) (w' := wa1.alloc (.cells #[.pointer (some ⟨gc, 0, none⟩)] 48)) (by go_simp; try with_reducible rfl) (fun _ _ => HS.out _ _ h2.own h2.rest) ?_
          simp only [Act.put, List.getElem_toArray, List.getElem_cons_zero, List.getElem_cons_succ, List.setIfInBounds_toArray, List.set_cons_zero, List.set_cons_succ]
          clear h1
          generalize put ga1 (r + 5) _ _ = ga2 at *
          generalize wa1.alloc _ = wa2 at *
          generalize wa1.heap.size = g5 at *
          refine Plan.p_fork ?_ ?_
          · refine Plan.at_law rfl fun K hK => ?_
            refine wp_append_V _ _ _ rfl 48 _ 1 8 Try.underlying119 Try.info48 rfl (by decide) h2.own (h2.a1 (by omega)) rfl (m := 1) (news := [.pointer (some ⟨gc, 0, none⟩)]) (.inr ⟨⟨g5, 0, none⟩, 1, rfl, rfl, fun jj u hj => ?_, fun u hu => ?_⟩) rfl (by unfold maxLen; omega) (by omega) fun A3 cap3 wa3 ga3 hA3 ho3 hs3 hk3 => hK _ _ (fun _ _ => ?_) ?_
            · rw [add_plain, Nat.zero_add]
              exact h2.own.cell (h2.c2 (by omega)) (i := jj) (by simpa using hj)
            · simp at hu
              subst hu
              rfl
            · have h3 := h2.capp ho3 hk3 hs3
              exact HS.out _ _ h3.own h3.rest
            have h3 := h2.capp ho3 hk3 hs3
            clear hK h2 ho3 hs3 hk3 hA3
            simp only [Act.put, List.getElem_toArray, List.getElem_cons_zero, List.getElem_cons_succ, List.setIfInBounds_toArray, List.set_cons_zero, List.set_cons_succ]
            refine Plan.p_fork ?_ ?_
            · refine Plan.at_call rfl 19 _ _ rfl enters19 #[.int .i64 sz] (by rfl) ((refNew_any h3.own (r + 12 + 4 * k) (r + 13 + 4 * k) sz).mono ?_)
              rintro e wa4 ⟨gp, rfl, ho4, hP4⟩
              have h4 := h3.pump ho4 (fun t ht => put_other _ _ _ ht) hP4
              clear h3 ho4 hP4
              generalize put ga3 (r + 12 + 4 * k) _ _ = ga4 at *
              refine ⟨_, rfl, (fun _ _ => HS.out _ _ h4.own h4.rest), ?_⟩
              simp only [Act.put, List.getElem_toArray, List.getElem_cons_zero, List.getElem_cons_succ, List.setIfInBounds_toArray, List.set_cons_zero, List.set_cons_succ]
              refine Plan.p_fork ?_ ?_
              · have h5 := h4.pelm (h4.own.new (r + 7) (.cells #[.pointer (some ⟨gp, 0, none⟩)] 25)) (fun t ht => put_other _ _ _ ht) (put_same _ _ _ _)
                refine Plan.at_run rfl (.value (.slice (some ⟨wa4.heap.size, 0, none⟩) 1 1)) _ (.inl rfl) (w' := wa4.alloc (.cells #[.pointer (some ⟨gp, 0, none⟩)] 25)) (by go_simp; try with_reducible rfl) (fun _ _ => HS.out _ _ h5.own h5.rest) ?_
                simp only [Act.put, List.getElem_toArray, List.getElem_cons_zero, List.getElem_cons_succ, List.setIfInBounds_toArray, List.set_cons_zero, List.set_cons_succ]
                clear h4
                generalize put ga4 (r + 7) _ _ = ga5 at *
                generalize wa4.alloc _ = wa5 at *
                generalize wa4.heap.size = g7 at *
                refine Plan.p_fork ?_ ?_
                · refine Plan.at_law rfl fun K hK => ?_
                  refine wp_append_V _ _ _ rfl 25 _ 1 8 Try.underlying120 Try.info25 rfl (by decide) h5.own (h5.a2 (by omega)) rfl (m := 1) (news := [.pointer (some ⟨gp, 0, none⟩)]) (.inr ⟨⟨g7, 0, none⟩, 1, rfl, rfl, fun jj u hj => ?_, fun u hu => ?_⟩) rfl (by unfold maxLen; omega) (by omega) fun A6 cap6 wa6 ga6 hA6 ho6 hs6 hk6 => hK _ _ (fun _ _ => ?_) ?_
                  · rw [add_plain, Nat.zero_add]
                    exact h5.own.cell (h5.p2 (by omega)) (i := jj) (by simpa using hj)
                  · simp at hu
                    subst hu
                    rfl
                  · have h6 := h5.papp ho6 hk6 hs6
                    exact HS.out _ _ h6.own h6.rest
                  have h6 := h5.papp ho6 hk6 hs6
                  clear hK h5 ho6 hs6 hk6 hA6
                  simp only [Act.put, List.getElem_toArray, List.getElem_cons_zero, List.getElem_cons_succ, List.setIfInBounds_toArray, List.set_cons_zero, List.set_cons_succ]
                  refine Plan.p_step rfl (by rfl) ?_
                  have h7 := h6.next (h6.own.new (r + 8) (.cells #[.int .i64 0] 3)) (fun t ht => put_other _ _ _ ht) (put_same _ _ _ _)
                  refine Plan.at_run rfl (.value (.slice (some ⟨wa6.heap.size, 0, none⟩) 1 1)) _ (.inl rfl) (w' := wa6.alloc (.cells #[.int .i64 0] 3)) (by go_simp; try with_reducible rfl) (fun _ _ => HS.out _ _ h7.own h7.rest) ?_
                  simp only [Act.put, List.getElem_toArray, List.getElem_cons_zero, List.getElem_cons_succ, List.setIfInBounds_toArray, List.set_cons_zero, List.set_cons_succ]
                  clear h6
                  generalize put ga6 (r + 8) _ _ = ga7 at *
                  generalize wa6.alloc _ = wa7 at *
                  generalize wa6.heap.size = g8 at *
                  refine Plan.p_step rfl (by rfl) ?_
                  refine Plan.at_law rfl fun K hK => ?_
                  refine wp_append_V _ _ _ rfl 3 _ 1 8 Try.underlying37 Try.info3 rfl (by decide) h7.own h7.a3 rfl (m := 1) (news := [.int .i64 0]) (.inr ⟨⟨g8, 0, none⟩, 1, rfl, rfl, fun jj u hj => ?_, fun u hu => ?_⟩) rfl (by unfold maxLen; omega) (by omega) fun A8 cap8 wa8 ga8 hA8 ho8 hs8 hk8 => hK _ _ (fun _ _ => ?_) ?_
                  · rw [add_plain, Nat.zero_add]
                    exact h7.own.cell (h7.n rfl) (i := jj) (by simpa using hj)
                  · simp at hu
                    subst hu
                    rfl
                  · exact HS.out _ _ ho8 fun t a1 a2 a3 a4 a5 a6 a7 => (hk8 t a3).trans (h7.rest t a1 a2 a3 a4 a5 a6 a7)
                  clear hK
                  simp only [Act.put, List.getElem_toArray, List.getElem_cons_zero, List.getElem_cons_succ, List.setIfInBounds_toArray, List.set_cons_zero, List.set_cons_succ]
                  obtain ⟨⟨u1, hu1⟩, f1, ⟨u2, hu2⟩, f2, ⟨u3, hu3⟩, f3, hN⟩ := HSTEP.out _ _ _ _ _ _ _ _ _ _ _ _ h7 ho8 hk8 hs8
                  have HN := Lib.hid hN
                  clear hN h7 ho8 hs8 hk8 hA8
                  repeat
                    refine Plan.p_pure rfl (by rfl) ?_ (fun w' => ?_) ?_
                    rotate_left
                    · (go_simp; try with_reducible rfl)
                    simp only [Act.put, List.getElem_toArray, List.getElem_cons_zero, List.getElem_cons_succ, List.setIfInBounds_toArray, List.set_cons_zero, List.set_cons_succ]
                  refine Plan.p_step rfl (by rfl) ?_
                  refine Plan.at_run rfl .skip undef (.inr ⟨rfl, rfl⟩) (w' := wa8.setCell ⟨gr, 1, none⟩ (.slice A3 (k + 1) cap3)) (by go_simp; try with_reducible rfl) (Perm.no_need (by kernel_rfl)) ?_
                  simp only [Act.put, List.getElem_toArray, List.getElem_cons_zero, List.getElem_cons_succ, List.setIfInBounds_toArray, List.set_cons_zero, List.set_cons_succ]
                  repeat
                    refine Plan.p_pure rfl (by rfl) ?_ (fun w' => ?_) ?_
                    rotate_left
                    · (go_simp; try with_reducible rfl)
                    simp only [Act.put, List.getElem_toArray, List.getElem_cons_zero, List.getElem_cons_succ, List.setIfInBounds_toArray, List.set_cons_zero, List.set_cons_succ]
                  refine Plan.p_step rfl (by rfl) ?_
                  refine Plan.at_run rfl .skip undef (.inr ⟨rfl, rfl⟩) (w' := (wa8.setCell ⟨gr, 1, none⟩ (.slice A3 (k + 1) cap3)).setCell ⟨gr, 2, none⟩ (.slice A6 (k + 1) cap6)) (by go_simp; try with_reducible rfl) (Perm.no_need (by kernel_rfl)) ?_
                  simp only [Act.put, List.getElem_toArray, List.getElem_cons_zero, List.getElem_cons_succ, List.setIfInBounds_toArray, List.set_cons_zero, List.set_cons_succ]
                  repeat
                    refine Plan.p_pure rfl (by rfl) ?_ (fun w' => ?_) ?_
                    rotate_left
                    · (go_simp; try with_reducible rfl)
                    simp only [Act.put, List.getElem_toArray, List.getElem_cons_zero, List.getElem_cons_succ, List.setIfInBounds_toArray, List.set_cons_zero, List.set_cons_succ]
                  refine Plan.p_step rfl (by rfl) ?_
                  refine Plan.at_run rfl .skip undef (.inr ⟨rfl, rfl⟩) (w' := ((wa8.setCell ⟨gr, 1, none⟩ (.slice A3 (k + 1) cap3)).setCell ⟨gr, 2, none⟩ (.slice A6 (k + 1) cap6)).setCell ⟨gr, 3, none⟩ (.slice A8 (k + 1) cap8)) (by go_simp; try with_reducible rfl) (Perm.no_need (by kernel_rfl)) ?_
                  simp only [Act.put, List.getElem_toArray, List.getElem_cons_zero, List.getElem_cons_succ, List.setIfInBounds_toArray, List.set_cons_zero, List.set_cons_succ]
                  refine Plan.p_done ?_
                  go_wp2_with fail
                  go_roundw
                  case rel => exact HN.out
                  case measure => simp [intOf]; omega

                · have h6 := h5.next (h5.own.new (r + 8) (.cells #[.int .i64 0] 3)) (fun t ht => put_other _ _ _ ht) (put_same _ _ _ _)
                  refine Plan.at_run rfl (.value (.slice (some ⟨wa5.heap.size, 0, none⟩) 1 1)) _ (.inl rfl) (w' := wa5.alloc (.cells #[.int .i64 0] 3)) (by go_simp; try with_reducible rfl) (fun _ _ => HS.out _ _ h6.own h6.rest) ?_
                  simp only [Act.put, List.getElem_toArray, List.getElem_cons_zero, List.getElem_cons_succ, List.setIfInBounds_toArray, List.set_cons_zero, List.set_cons_succ]
                  clear h5
                  generalize put ga5 (r + 8) _ _ = ga6 at *
                  generalize wa5.alloc _ = wa6 at *
                  generalize wa5.heap.size = g8 at *
                  refine Plan.p_step rfl (by rfl) ?_
                  refine Plan.at_law rfl fun K hK => ?_
                  refine wp_append_V _ _ _ rfl 25 _ 1 8 Try.underlying120 Try.info25 rfl (by decide) h6.own (h6.a2 (by omega)) rfl (m := 1) (news := [.pointer (some ⟨gp, 0, none⟩)]) (.inr ⟨⟨g7, 0, none⟩, 1, rfl, rfl, fun jj u hj => ?_, fun u hu => ?_⟩) rfl (by unfold maxLen; omega) (by omega) fun A7 cap7 wa7 ga7 hA7 ho7 hs7 hk7 => hK _ _ (fun _ _ => ?_) ?_
                  · rw [add_plain, Nat.zero_add]
                    exact h6.own.cell (h6.p2 (by omega)) (i := jj) (by simpa using hj)
                  · simp at hu
                    subst hu
                    rfl
                  · have h7 := h6.papp ho7 hk7 hs7
                    exact HS.out _ _ h7.own h7.rest
                  have h7 := h6.papp ho7 hk7 hs7
                  clear hK h6 ho7 hs7 hk7 hA7
                  simp only [Act.put, List.getElem_toArray, List.getElem_cons_zero, List.getElem_cons_succ, List.setIfInBounds_toArray, List.set_cons_zero, List.set_cons_succ]
                  refine Plan.p_step rfl (by rfl) ?_
                  refine Plan.at_law rfl fun K hK => ?_
                  refine wp_append_V _ _ _ rfl 3 _ 1 8 Try.underlying37 Try.info3 rfl (by decide) h7.own h7.a3 rfl (m := 1) (news := [.int .i64 0]) (.inr ⟨⟨g8, 0, none⟩, 1, rfl, rfl, fun jj u hj => ?_, fun u hu => ?_⟩) rfl (by unfold maxLen; omega) (by omega) fun A8 cap8 wa8 ga8 hA8 ho8 hs8 hk8 => hK _ _ (fun _ _ => ?_) ?_
                  · rw [add_plain, Nat.zero_add]
                    exact h7.own.cell (h7.n rfl) (i := jj) (by simpa using hj)
                  · simp at hu
                    subst hu
                    rfl
                  · exact HS.out _ _ ho8 fun t a1 a2 a3 a4 a5 a6 a7 => (hk8 t a3).trans (h7.rest t a1 a2 a3 a4 a5 a6 a7)
                  clear hK
                  simp only [Act.put, List.getElem_toArray, List.getElem_cons_zero, List.getElem_cons_succ, List.setIfInBounds_toArray, List.set_cons_zero, List.set_cons_succ]
                  obtain ⟨⟨u1, hu1⟩, f1, ⟨u2, hu2⟩, f2, ⟨u3, hu3⟩, f3, hN⟩ := HSTEP.out _ _ _ _ _ _ _ _ _ _ _ _ h7 ho8 hk8 hs8
                  have HN := Lib.hid hN
                  clear hN h7 ho8 hs8 hk8 hA8
                  repeat
                    refine Plan.p_pure rfl (by rfl) ?_ (fun w' => ?_) ?_
                    rotate_left
                    · (go_simp; try with_reducible rfl)
                    simp only [Act.put, List.getElem_toArray, List.getElem_cons_zero, List.getElem_cons_succ, List.setIfInBounds_toArray, List.set_cons_zero, List.set_cons_succ]
                  refine Plan.p_step rfl (by rfl) ?_
                  refine Plan.at_run rfl .skip undef (.inr ⟨rfl, rfl⟩) (w' := wa8.setCell ⟨gr, 1, none⟩ (.slice A3 (k + 1) cap3)) (by go_simp; try with_reducible rfl) (Perm.no_need (by kernel_rfl)) ?_
                  simp only [Act.put, List.getElem_toArray, List.getElem_cons_zero, List.getElem_cons_succ, List.setIfInBounds_toArray, List.set_cons_zero, List.set_cons_succ]
                  repeat
                    refine Plan.p_pure rfl (by rfl) ?_ (fun w' => ?_) ?_
                    rotate_left
                    · (go_simp; try with_reducible rfl)
                    simp only [Act.put, List.getElem_toArray, List.getElem_cons_zero, List.getElem_cons_succ, List.setIfInBounds_toArray, List.set_cons_zero, List.set_cons_succ]
                  refine Plan.p_step rfl (by rfl) ?_
                  refine Plan.at_run rfl .skip undef (.inr ⟨rfl, rfl⟩) (w' := (wa8.setCell ⟨gr, 1, none⟩ (.slice A3 (k + 1) cap3)).setCell ⟨gr, 2, none⟩ (.slice A7 (k + 1) cap7)) (by go_simp; try with_reducible rfl) (Perm.no_need (by kernel_rfl)) ?_
                  simp only [Act.put, List.getElem_toArray, List.getElem_cons_zero, List.getElem_cons_succ, List.setIfInBounds_toArray, List.set_cons_zero, List.set_cons_succ]
                  repeat
                    refine Plan.p_pure rfl (by rfl) ?_ (fun w' => ?_) ?_
                    rotate_left
                    · (go_simp; try with_reducible rfl)
                    simp only [Act.put, List.getElem_toArray, List.getElem_cons_zero, List.getElem_cons_succ, List.setIfInBounds_toArray, List.set_cons_zero, List.set_cons_succ]
                  refine Plan.p_step rfl (by rfl) ?_
                  refine Plan.at_run rfl .skip undef (.inr ⟨rfl, rfl⟩) (w' := ((wa8.setCell ⟨gr, 1, none⟩ (.slice A3 (k + 1) cap3)).setCell ⟨gr, 2, none⟩ (.slice A7 (k + 1) cap7)).setCell ⟨gr, 3, none⟩ (.slice A8 (k + 1) cap8)) (by go_simp; try with_reducible rfl) (Perm.no_need (by kernel_rfl)) ?_
                  simp only [Act.put, List.getElem_toArray, List.getElem_cons_zero, List.getElem_cons_succ, List.setIfInBounds_toArray, List.set_cons_zero, List.set_cons_succ]
                  refine Plan.p_done ?_
                  go_wp2_with fail
                  go_roundw
                  case rel => exact HN.out
                  case measure => simp [intOf]; omega


              · have h5 := h4.next (h4.own.new (r + 8) (.cells #[.int .i64 0] 3)) (fun t ht => put_other _ _ _ ht) (put_same _ _ _ _)
                refine Plan.at_run rfl (.value (.slice (some ⟨wa4.heap.size, 0, none⟩) 1 1)) _ (.inl rfl) (w' := wa4.alloc (.cells #[.int .i64 0] 3)) (by go_simp; try with_reducible rfl) (fun _ _ => HS.out _ _ h5.own h5.rest) ?_
                simp only [Act.put, List.getElem_toArray, List.getElem_cons_zero, List.getElem_cons_succ, List.setIfInBounds_toArray, List.set_cons_zero, List.set_cons_succ]
                clear h4
                generalize put ga4 (r + 8) _ _ = ga5 at *
                generalize wa4.alloc _ = wa5 at *
                generalize wa4.heap.size = g8 at *
                refine Plan.p_step rfl (by rfl) ?_
                have h6 := h5.pelm (h5.own.new (r + 7) (.cells #[.pointer (some ⟨gp, 0, none⟩)] 25)) (fun t ht => put_other _ _ _ ht) (put_same _ _ _ _)
                refine Plan.at_run rfl (.value (.slice (some ⟨wa5.heap.size, 0, none⟩) 1 1)) _ (.inl rfl) (w' := wa5.alloc (.cells #[.pointer (some ⟨gp, 0, none⟩)] 25)) (by go_simp; try with_reducible rfl) (fun _ _ => HS.out _ _ h6.own h6.rest) ?_
                simp only [Act.put, List.getElem_toArray, List.getElem_cons_zero, List.getElem_cons_succ, List.setIfInBounds_toArray, List.set_cons_zero, List.set_cons_succ]
                clear h5
                generalize put ga5 (r + 7) _ _ = ga6 at *
                generalize wa5.alloc _ = wa6 at *
                generalize wa5.heap.size = g7 at *
                refine Plan.p_step rfl (by rfl) ?_
                refine Plan.at_law rfl fun K hK => ?_
                refine wp_append_V _ _ _ rfl 25 _ 1 8 Try.underlying120 Try.info25 rfl (by decide) h6.own (h6.a2 (by omega)) rfl (m := 1) (news := [.pointer (some ⟨gp, 0, none⟩)]) (.inr ⟨⟨g7, 0, none⟩, 1, rfl, rfl, fun jj u hj => ?_, fun u hu => ?_⟩) rfl (by unfold maxLen; omega) (by omega) fun A7 cap7 wa7 ga7 hA7 ho7 hs7 hk7 => hK _ _ (fun _ _ => ?_) ?_
                · rw [add_plain, Nat.zero_add]
                  exact h6.own.cell (h6.p2 (by omega)) (i := jj) (by simpa using hj)
                · simp at hu
                  subst hu
                  rfl
                · have h7 := h6.papp ho7 hk7 hs7
                  exact HS.out _ _ h7.own h7.rest
                have h7 := h6.papp ho7 hk7 hs7
                clear hK h6 ho7 hs7 hk7 hA7
                simp only [Act.put, List.getElem_toArray, List.getElem_cons_zero, List.getElem_cons_succ, List.setIfInBounds_toArray, List.set_cons_zero, List.set_cons_succ]
                refine Plan.p_step rfl (by rfl) ?_
                refine Plan.at_law rfl fun K hK => ?_
                refine wp_append_V _ _ _ rfl 3 _ 1 8 Try.underlying37 Try.info3 rfl (by decide) h7.own h7.a3 rfl (m := 1) (news := [.int .i64 0]) (.inr ⟨⟨g8, 0, none⟩, 1, rfl, rfl, fun jj u hj => ?_, fun u hu => ?_⟩) rfl (by unfold maxLen; omega) (by omega) fun A8 cap8 wa8 ga8 hA8 ho8 hs8 hk8 => hK _ _ (fun _ _ => ?_) ?_
                · rw [add_plain, Nat.zero_add]
                  exact h7.own.cell (h7.n rfl) (i := jj) (by simpa using hj)
                · simp at hu
                  subst hu
                  rfl
                · exact HS.out _ _ ho8 fun t a1 a2 a3 a4 a5 a6 a7 => (hk8 t a3).trans (h7.rest t a1 a2 a3 a4 a5 a6 a7)
                clear hK
                simp only [Act.put, List.getElem_toArray, List.getElem_cons_zero, List.getElem_cons_succ, List.setIfInBounds_toArray, List.set_cons_zero, List.set_cons_succ]
                obtain ⟨⟨u1, hu1⟩, f1, ⟨u2, hu2⟩, f2, ⟨u3, hu3⟩, f3, hN⟩ := HSTEP.out _ _ _ _ _ _ _ _ _ _ _ _ h7 ho8 hk8 hs8
                have HN := Lib.hid hN
                clear hN h7 ho8 hs8 hk8 hA8
                repeat
                  refine Plan.p_pure rfl (by rfl) ?_ (fun w' => ?_) ?_
                  rotate_left
                  · (go_simp; try with_reducible rfl)
                  simp only [Act.put, List.getElem_toArray, List.getElem_cons_zero, List.getElem_cons_succ, List.setIfInBounds_toArray, List.set_cons_zero, List.set_cons_succ]
                refine Plan.p_step rfl (by rfl) ?_
                refine Plan.at_run rfl .skip undef (.inr ⟨rfl, rfl⟩) (w' := wa8.setCell ⟨gr, 1, none⟩ (.slice A3 (k + 1) cap3)) (by go_simp; try with_reducible rfl) (Perm.no_need (by kernel_rfl)) ?_
                simp only [Act.put, List.getElem_toArray, List.getElem_cons_zero, List.getElem_cons_succ, List.setIfInBounds_toArray, List.set_cons_zero, List.set_cons_succ]
                repeat
                  refine Plan.p_pure rfl (by rfl) ?_ (fun w' => ?_) ?_
                  rotate_left
                  · (go_simp; try with_reducible rfl)
                  simp only [Act.put, List.getElem_toArray, List.getElem_cons_zero, List.getElem_cons_succ, List.setIfInBounds_toArray, List.set_cons_zero, List.set_cons_succ]
                refine Plan.p_step rfl (by rfl) ?_
                refine Plan.at_run rfl .skip undef (.inr ⟨rfl, rfl⟩) (w' := (wa8.setCell ⟨gr, 1, none⟩ (.slice A3 (k + 1) cap3)).setCell ⟨gr, 2, none⟩ (.slice A7 (k + 1) cap7)) (by go_simp; try with_reducible rfl) (Perm.no_need (by kernel_rfl)) ?_
                simp only [Act.put, List.getElem_toArray, List.getElem_cons_zero, List.getElem_cons_succ, List.setIfInBounds_toArray, List.set_cons_zero, List.set_cons_succ]
                repeat
                  refine Plan.p_pure rfl (by rfl) ?_ (fun w' => ?_) ?_
                  rotate_left
                  · (go_simp; try with_reducible rfl)
                  simp only [Act.put, List.getElem_toArray, List.getElem_cons_zero, List.getElem_cons_succ, List.setIfInBounds_toArray, List.set_cons_zero, List.set_cons_succ]
                refine Plan.p_step rfl (by rfl) ?_
                refine Plan.at_run rfl .skip undef (.inr ⟨rfl, rfl⟩) (w' := ((wa8.setCell ⟨gr, 1, none⟩ (.slice A3 (k + 1) cap3)).setCell ⟨gr, 2, none⟩ (.slice A7 (k + 1) cap7)).setCell ⟨gr, 3, none⟩ (.slice A8 (k + 1) cap8)) (by go_simp; try with_reducible rfl) (Perm.no_need (by kernel_rfl)) ?_
                simp only [Act.put, List.getElem_toArray, List.getElem_cons_zero, List.getElem_cons_succ, List.setIfInBounds_toArray, List.set_cons_zero, List.set_cons_succ]
                refine Plan.p_done ?_
                go_wp2_with fail
                go_roundw
                case rel => exact HN.out
                case measure => simp [intOf]; omega


            · have h4 := h3.next (h3.own.new (r + 8) (.cells #[.int .i64 0] 3)) (fun t ht => put_other _ _ _ ht) (put_same _ _ _ _)
              refine Plan.at_run rfl (.value (.slice (some ⟨wa3.heap.size, 0, none⟩) 1 1)) _ (.inl rfl) (w' := wa3.alloc (.cells #[.int .i64 0] 3)) (by go_simp; try with_reducible rfl) (fun _ _ => HS.out _ _ h4.own h4.rest) ?_
              simp only [Act.put, List.getElem_toArray, List.getElem_cons_zero, List.getElem_cons_succ, List.setIfInBounds_toArray, List.set_cons_zero, List.set_cons_succ]
              clear h3
              generalize put ga3 (r + 8) _ _ = ga4 at *
              generalize wa3.alloc _ = wa4 at *
              generalize wa3.heap.size = g8 at *
              refine Plan.p_step rfl (by rfl) ?_
              refine Plan.at_call rfl 19 _ _ rfl enters19 #[.int .i64 sz] (by rfl) ((refNew_any h4.own (r + 12 + 4 * k) (r + 13 + 4 * k) sz).mono ?_)
              rintro e wa5 ⟨gp, rfl, ho5, hP5⟩
              have h5 := h4.pump ho5 (fun t ht => put_other _ _ _ ht) hP5
              clear h4 ho5 hP5
              generalize put ga4 (r + 12 + 4 * k) _ _ = ga5 at *
              refine ⟨_, rfl, (fun _ _ => HS.out _ _ h5.own h5.rest), ?_⟩
              simp only [Act.put, List.getElem_toArray, List.getElem_cons_zero, List.getElem_cons_succ, List.setIfInBounds_toArray, List.set_cons_zero, List.set_cons_succ]
              refine Plan.p_step rfl (by rfl) ?_
              have h6 := h5.pelm (h5.own.new (r + 7) (.cells #[.pointer (some ⟨gp, 0, none⟩)] 25)) (fun t ht => put_other _ _ _ ht) (put_same _ _ _ _)
              refine Plan.at_run rfl (.value (.slice (some ⟨wa5.heap.size, 0, none⟩) 1 1)) _ (.inl rfl) (w' := wa5.alloc (.cells #[.pointer (some ⟨gp, 0, none⟩)] 25)) (by go_simp; try with_reducible rfl) (fun _ _ => HS.out _ _ h6.own h6.rest) ?_
              simp only [Act.put, List.getElem_toArray, List.getElem_cons_zero, List.getElem_cons_succ, List.setIfInBounds_toArray, List.set_cons_zero, List.set_cons_succ]
              clear h5
              generalize put ga5 (r + 7) _ _ = ga6 at *
              generalize wa5.alloc _ = wa6 at *
              generalize wa5.heap.size = g7 at *
              refine Plan.p_step rfl (by rfl) ?_
              refine Plan.at_law rfl fun K hK => ?_
              refine wp_append_V _ _ _ rfl 25 _ 1 8 Try.underlying120 Try.info25 rfl (by decide) h6.own (h6.a2 (by omega)) rfl (m := 1) (news := [.pointer (some ⟨gp, 0, none⟩)]) (.inr ⟨⟨g7, 0, none⟩, 1, rfl, rfl, fun jj u hj => ?_, fun u hu => ?_⟩) rfl (by unfold maxLen; omega) (by omega) fun A7 cap7 wa7 ga7 hA7 ho7 hs7 hk7 => hK _ _ (fun _ _ => ?_) ?_
              · rw [add_plain, Nat.zero_add]
                exact h6.own.cell (h6.p2 (by omega)) (i := jj) (by simpa using hj)
              · simp at hu
                subst hu
                rfl
              · have h7 := h6.papp ho7 hk7 hs7
                exact HS.out _ _ h7.own h7.rest
              have h7 := h6.papp ho7 hk7 hs7
              clear hK h6 ho7 hs7 hk7 hA7
              simp only [Act.put, List.getElem_toArray, List.getElem_cons_zero, List.getElem_cons_succ, List.setIfInBounds_toArray, List.set_cons_zero, List.set_cons_succ]
              refine Plan.p_step rfl (by rfl) ?_
              refine Plan.at_law rfl fun K hK => ?_
              refine wp_append_V _ _ _ rfl 3 _ 1 8 Try.underlying37 Try.info3 rfl (by decide) h7.own h7.a3 rfl (m := 1) (news := [.int .i64 0]) (.inr ⟨⟨g8, 0, none⟩, 1, rfl, rfl, fun jj u hj => ?_, fun u hu => ?_⟩) rfl (by unfold maxLen; omega) (by omega) fun A8 cap8 wa8 ga8 hA8 ho8 hs8 hk8 => hK _ _ (fun _ _ => ?_) ?_
              · rw [add_plain, Nat.zero_add]
                exact h7.own.cell (h7.n rfl) (i := jj) (by simpa using hj)
              · simp at hu
                subst hu
                rfl
              · exact HS.out _ _ ho8 fun t a1 a2 a3 a4 a5 a6 a7 => (hk8 t a3).trans (h7.rest t a1 a2 a3 a4 a5 a6 a7)
              clear hK
              simp only [Act.put, List.getElem_toArray, List.getElem_cons_zero, List.getElem_cons_succ, List.setIfInBounds_toArray, List.set_cons_zero, List.set_cons_succ]
              obtain ⟨⟨u1, hu1⟩, f1, ⟨u2, hu2⟩, f2, ⟨u3, hu3⟩, f3, hN⟩ := HSTEP.out _ _ _ _ _ _ _ _ _ _ _ _ h7 ho8 hk8 hs8
              have HN := Lib.hid hN
              clear hN h7 ho8 hs8 hk8 hA8
              repeat
                refine Plan.p_pure rfl (by rfl) ?_ (fun w' => ?_) ?_
                rotate_left
                · (go_simp; try with_reducible rfl)
                simp only [Act.put, List.getElem_toArray, List.getElem_cons_zero, List.getElem_cons_succ, List.setIfInBounds_toArray, List.set_cons_zero, List.set_cons_succ]
              refine Plan.p_step rfl (by rfl) ?_
              refine Plan.at_run rfl .skip undef (.inr ⟨rfl, rfl⟩) (w' := wa8.setCell ⟨gr, 1, none⟩ (.slice A3 (k + 1) cap3)) (by go_simp; try with_reducible rfl) (Perm.no_need (by kernel_rfl)) ?_
              simp only [Act.put, List.getElem_toArray, List.getElem_cons_zero, List.getElem_cons_succ, List.setIfInBounds_toArray, List.set_cons_zero, List.set_cons_succ]
              repeat
                refine Plan.p_pure rfl (by rfl) ?_ (fun w' => ?_) ?_
                rotate_left
                · (go_simp; try with_reducible rfl)
                simp only [Act.put, List.getElem_toArray, List.getElem_cons_zero, List.getElem_cons_succ, List.setIfInBounds_toArray, List.set_cons_zero, List.set_cons_succ]
              refine Plan.p_step rfl (by rfl) ?_
              refine Plan.at_run rfl .skip undef (.inr ⟨rfl, rfl⟩) (w' := (wa8.setCell ⟨gr, 1, none⟩ (.slice A3 (k + 1) cap3)).setCell ⟨gr, 2, none⟩ (.slice A7 (k + 1) cap7)) (by go_simp; try with_reducible rfl) (Perm.no_need (by kernel_rfl)) ?_
              simp only [Act.put, List.getElem_toArray, List.getElem_cons_zero, List.getElem_cons_succ, List.setIfInBounds_toArray, List.set_cons_zero, List.set_cons_succ]
              repeat
                refine Plan.p_pure rfl (by rfl) ?_ (fun w' => ?_) ?_
                rotate_left
                · (go_simp; try with_reducible rfl)
                simp only [Act.put, List.getElem_toArray, List.getElem_cons_zero, List.getElem_cons_succ, List.setIfInBounds_toArray, List.set_cons_zero, List.set_cons_succ]
              refine Plan.p_step rfl (by rfl) ?_
              refine Plan.at_run rfl .skip undef (.inr ⟨rfl, rfl⟩) (w' := ((wa8.setCell ⟨gr, 1, none⟩ (.slice A3 (k + 1) cap3)).setCell ⟨gr, 2, none⟩ (.slice A7 (k + 1) cap7)).setCell ⟨gr, 3, none⟩ (.slice A8 (k + 1) cap8)) (by go_simp; try with_reducible rfl) (Perm.no_need (by kernel_rfl)) ?_
              simp only [Act.put, List.getElem_toArray, List.getElem_cons_zero, List.getElem_cons_succ, List.setIfInBounds_toArray, List.set_cons_zero, List.set_cons_succ]
              refine Plan.p_done ?_
              go_wp2_with fail
              go_roundw
              case rel => exact HN.out
              case measure => simp [intOf]; omega


          · have h3 := h2.next (h2.own.new (r + 8) (.cells #[.int .i64 0] 3)) (fun t ht => put_other _ _ _ ht) (put_same _ _ _ _)
            refine Plan.at_run rfl (.value (.slice (some ⟨wa2.heap.size, 0, none⟩) 1 1)) _ (.inl rfl) (w' := wa2.alloc (.cells #[.int .i64 0] 3)) (by go_simp; try with_reducible rfl) (fun _ _ => HS.out _ _ h3.own h3.rest) ?_
            simp only [Act.put, List.getElem_toArray, List.getElem_cons_zero, List.getElem_cons_succ, List.setIfInBounds_toArray, List.set_cons_zero, List.set_cons_succ]
            clear h2
            generalize put ga2 (r + 8) _ _ = ga3 at *
            generalize wa2.alloc _ = wa3 at *
            generalize wa2.heap.size = g8 at *
            refine Plan.p_step rfl (by rfl) ?_
            refine Plan.at_law rfl fun K hK => ?_
            refine wp_append_V _ _ _ rfl 48 _ 1 8 Try.underlying119 Try.info48 rfl (by decide) h3.own (h3.a1 (by omega)) rfl (m := 1) (news := [.pointer (some ⟨gc, 0, none⟩)]) (.inr ⟨⟨g5, 0, none⟩, 1, rfl, rfl, fun jj u hj => ?_, fun u hu => ?_⟩) rfl (by unfold maxLen; omega) (by omega) fun A4 cap4 wa4 ga4 hA4 ho4 hs4 hk4 => hK _ _ (fun _ _ => ?_) ?_
            · rw [add_plain, Nat.zero_add]
              exact h3.own.cell (h3.c2 (by omega)) (i := jj) (by simpa using hj)
            · simp at hu
              subst hu
              rfl
            · have h4 := h3.capp ho4 hk4 hs4
              exact HS.out _ _ h4.own h4.rest
            have h4 := h3.capp ho4 hk4 hs4
            clear hK h3 ho4 hs4 hk4 hA4
            simp only [Act.put, List.getElem_toArray, List.getElem_cons_zero, List.getElem_cons_succ, List.setIfInBounds_toArray, List.set_cons_zero, List.set_cons_succ]
            refine Plan.p_step rfl (by rfl) ?_
            refine Plan.at_call rfl 19 _ _ rfl enters19 #[.int .i64 sz] (by rfl) ((refNew_any h4.own (r + 12 + 4 * k) (r + 13 + 4 * k) sz).mono ?_)
            rintro e wa5 ⟨gp, rfl, ho5, hP5⟩
            have h5 := h4.pump ho5 (fun t ht => put_other _ _ _ ht) hP5
            clear h4 ho5 hP5
            generalize put ga4 (r + 12 + 4 * k) _ _ = ga5 at *
            refine ⟨_, rfl, (fun _ _ => HS.out _ _ h5.own h5.rest), ?_⟩
            simp only [Act.put, List.getElem_toArray, List.getElem_cons_zero, List.getElem_cons_succ, List.setIfInBounds_toArray, List.set_cons_zero, List.set_cons_succ]
            refine Plan.p_step rfl (by rfl) ?_
            have h6 := h5.pelm (h5.own.new (r + 7) (.cells #[.pointer (some ⟨gp, 0, none⟩)] 25)) (fun t ht => put_other _ _ _ ht) (put_same _ _ _ _)
            refine Plan.at_run rfl (.value (.slice (some ⟨wa5.heap.size, 0, none⟩) 1 1)) _ (.inl rfl) (w' := wa5.alloc (.cells #[.pointer (some ⟨gp, 0, none⟩)] 25)) (by go_simp; try with_reducible rfl) (fun _ _ => HS.out _ _ h6.own h6.rest) ?_
            simp only [Act.put, List.getElem_toArray, List.getElem_cons_zero, List.getElem_cons_succ, List.setIfInBounds_toArray, List.set_cons_zero, List.set_cons_succ]
            clear h5
            generalize put ga5 (r + 7) _ _ = ga6 at *
            generalize wa5.alloc _ = wa6 at *
            generalize wa5.heap.size = g7 at *
            refine Plan.p_step rfl (by rfl) ?_
            refine Plan.at_law rfl fun K hK => ?_
            refine wp_append_V _ _ _ rfl 25 _ 1 8 Try.underlying120 Try.info25 rfl (by decide) h6.own (h6.a2 (by omega)) rfl (m := 1) (news := [.pointer (some ⟨gp, 0, none⟩)]) (.inr ⟨⟨g7, 0, none⟩, 1, rfl, rfl, fun jj u hj => ?_, fun u hu => ?_⟩) rfl (by unfold maxLen; omega) (by omega) fun A7 cap7 wa7 ga7 hA7 ho7 hs7 hk7 => hK _ _ (fun _ _ => ?_) ?_
            · rw [add_plain, Nat.zero_add]
              exact h6.own.cell (h6.p2 (by omega)) (i := jj) (by simpa using hj)
            · simp at hu
              subst hu
              rfl
            · have h7 := h6.papp ho7 hk7 hs7
              exact HS.out _ _ h7.own h7.rest
            have h7 := h6.papp ho7 hk7 hs7
            clear hK h6 ho7 hs7 hk7 hA7
            simp only [Act.put, List.getElem_toArray, List.getElem_cons_zero, List.getElem_cons_succ, List.setIfInBounds_toArray, List.set_cons_zero, List.set_cons_succ]
            refine Plan.p_step rfl (by rfl) ?_
            refine Plan.at_law rfl fun K hK => ?_
            refine wp_append_V _ _ _ rfl 3 _ 1 8 Try.underlying37 Try.info3 rfl (by decide) h7.own h7.a3 rfl (m := 1) (news := [.int .i64 0]) (.inr ⟨⟨g8, 0, none⟩, 1, rfl, rfl, fun jj u hj => ?_, fun u hu => ?_⟩) rfl (by unfold maxLen; omega) (by omega) fun A8 cap8 wa8 ga8 hA8 ho8 hs8 hk8 => hK _ _ (fun _ _ => ?_) ?_
            · rw [add_plain, Nat.zero_add]
              exact h7.own.cell (h7.n rfl) (i := jj) (by simpa using hj)
            · simp at hu
              subst hu
              rfl
            · exact HS.out _ _ ho8 fun t a1 a2 a3 a4 a5 a6 a7 => (hk8 t a3).trans (h7.rest t a1 a2 a3 a4 a5 a6 a7)
            clear hK
            simp only [Act.put, List.getElem_toArray, List.getElem_cons_zero, List.getElem_cons_succ, List.setIfInBounds_toArray, List.set_cons_zero, List.set_cons_succ]
            obtain ⟨⟨u1, hu1⟩, f1, ⟨u2, hu2⟩, f2, ⟨u3, hu3⟩, f3, hN⟩ := HSTEP.out _ _ _ _ _ _ _ _ _ _ _ _ h7 ho8 hk8 hs8
            have HN := Lib.hid hN
            clear hN h7 ho8 hs8 hk8 hA8
            repeat
              refine Plan.p_pure rfl (by rfl) ?_ (fun w' => ?_) ?_
              rotate_left
              · (go_simp; try with_reducible rfl)
              simp only [Act.put, List.getElem_toArray, List.getElem_cons_zero, List.getElem_cons_succ, List.setIfInBounds_toArray, List.set_cons_zero, List.set_cons_succ]
            refine Plan.p_step rfl (by rfl) ?_
            refine Plan.at_run rfl .skip undef (.inr ⟨rfl, rfl⟩) (w' := wa8.setCell ⟨gr, 1, none⟩ (.slice A4 (k + 1) cap4)) (by go_simp; try with_reducible rfl) (Perm.no_need (by kernel_rfl)) ?_
            simp only [Act.put, List.getElem_toArray, List.getElem_cons_zero, List.getElem_cons_succ, List.setIfInBounds_toArray, List.set_cons_zero, List.set_cons_succ]
            repeat
              refine Plan.p_pure rfl (by rfl) ?_ (fun w' => ?_) ?_
              rotate_left
              · (go_simp; try with_reducible rfl)
              simp only [Act.put, List.getElem_toArray, List.getElem_cons_zero, List.getElem_cons_succ, List.setIfInBounds_toArray, List.set_cons_zero, List.set_cons_succ]
            refine Plan.p_step rfl (by rfl) ?_
            refine Plan.at_run rfl .skip undef (.inr ⟨rfl, rfl⟩) (w' := (wa8.setCell ⟨gr, 1, none⟩ (.slice A4 (k + 1) cap4)).setCell ⟨gr, 2, none⟩ (.slice A7 (k + 1) cap7)) (by go_simp; try with_reducible rfl) (Perm.no_need (by kernel_rfl)) ?_
            simp only [Act.put, List.getElem_toArray, List.getElem_cons_zero, List.getElem_cons_succ, List.setIfInBounds_toArray, List.set_cons_zero, List.set_cons_succ]
            repeat
              refine Plan.p_pure rfl (by rfl) ?_ (fun w' => ?_) ?_
              rotate_left
              · (go_simp; try with_reducible rfl)
              simp only [Act.put, List.getElem_toArray, List.getElem_cons_zero, List.getElem_cons_succ, List.setIfInBounds_toArray, List.set_cons_zero, List.set_cons_succ]
            refine Plan.p_step rfl (by rfl) ?_
            refine Plan.at_run rfl .skip undef (.inr ⟨rfl, rfl⟩) (w' := ((wa8.setCell ⟨gr, 1, none⟩ (.slice A4 (k + 1) cap4)).setCell ⟨gr, 2, none⟩ (.slice A7 (k + 1) cap7)).setCell ⟨gr, 3, none⟩ (.slice A8 (k + 1) cap8)) (by go_simp; try with_reducible rfl) (Perm.no_need (by kernel_rfl)) ?_
            simp only [Act.put, List.getElem_toArray, List.getElem_cons_zero, List.getElem_cons_succ, List.setIfInBounds_toArray, List.set_cons_zero, List.set_cons_succ]
            refine Plan.p_done ?_
            go_wp2_with fail
            go_roundw
            case rel => exact HN.out
            case measure => simp [intOf]; omega


        · have h2 := h1.next (h1.own.new (r + 8) (.cells #[.int .i64 0] 3)) (fun t ht => put_other _ _ _ ht) (put_same _ _ _ _)
          refine Plan.at_run rfl (.value (.slice (some ⟨wa1.heap.size, 0, none⟩) 1 1)) _ (.inl rfl) (w' := wa1.alloc (.cells #[.int .i64 0] 3)) (by go_simp; try with_reducible rfl) (fun _ _ => HS.out _ _ h2.own h2.rest) ?_
          simp only [Act.put, List.getElem_toArray, List.getElem_cons_zero, List.getElem_cons_succ, List.setIfInBounds_toArray, List.set_cons_zero, List.set_cons_succ]
          clear h1
          generalize put ga1 (r + 8) _ _ = ga2 at *
          generalize wa1.alloc _ = wa2 at *
          generalize wa1.heap.size = g8 at *
          refine Plan.p_step rfl (by rfl) ?_
          have h3 := h2.celm (h2.own.new (r + 5) (.cells #[.pointer (some ⟨gc, 0, none⟩)] 48)) (fun t ht => put_other _ _ _ ht) (put_same _ _ _ _)
          refine Plan.at_run rfl (.value (.slice (some ⟨wa2.heap.size, 0, none⟩) 1 1)) _ (.inl rfl) (w' := wa2.alloc (.cells #[.pointer (some ⟨gc, 0, none⟩)] 48)) (by go_simp; try with_reducible rfl) (fun _ _ => HS.out _ _ h3.own h3.rest) ?_
          simp only [Act.put, List.getElem_toArray, List.getElem_cons_zero, List.getElem_cons_succ, List.setIfInBounds_toArray, List.set_cons_zero, List.set_cons_succ]
          clear h2
          generalize put ga2 (r + 5) _ _ = ga3 at *
          generalize wa2.alloc _ = wa3 at *
          generalize wa2.heap.size = g5 at *
          refine Plan.p_step rfl (by rfl) ?_
          refine Plan.at_law rfl fun K hK => ?_
          refine wp_append_V _ _ _ rfl 48 _ 1 8 Try.underlying119 Try.info48 rfl (by decide) h3.own (h3.a1 (by omega)) rfl (m := 1) (news := [.pointer (some ⟨gc, 0, none⟩)]) (.inr ⟨⟨g5, 0, none⟩, 1, rfl, rfl, fun jj u hj => ?_, fun u hu => ?_⟩) rfl (by unfold maxLen; omega) (by omega) fun A4 cap4 wa4 ga4 hA4 ho4 hs4 hk4 => hK _ _ (fun _ _ => ?_) ?_
          · rw [add_plain, Nat.zero_add]
            exact h3.own.cell (h3.c2 (by omega)) (i := jj) (by simpa using hj)
          · simp at hu
            subst hu
            rfl
          · have h4 := h3.capp ho4 hk4 hs4
            exact HS.out _ _ h4.own h4.rest
          have h4 := h3.capp ho4 hk4 hs4
          clear hK h3 ho4 hs4 hk4 hA4
          simp only [Act.put, List.getElem_toArray, List.getElem_cons_zero, List.getElem_cons_succ, List.setIfInBounds_toArray, List.set_cons_zero, List.set_cons_succ]
          refine Plan.p_step rfl (by rfl) ?_
          refine Plan.at_call rfl 19 _ _ rfl enters19 #[.int .i64 sz] (by rfl) ((refNew_any h4.own (r + 12 + 4 * k) (r + 13 + 4 * k) sz).mono ?_)
          rintro e wa5 ⟨gp, rfl, ho5, hP5⟩
          have h5 := h4.pump ho5 (fun t ht => put_other _ _ _ ht) hP5
          clear h4 ho5 hP5
          generalize put ga4 (r + 12 + 4 * k) _ _ = ga5 at *
          refine ⟨_, rfl, (fun _ _ => HS.out _ _ h5.own h5.rest), ?_⟩
          simp only [Act.put, List.getElem_toArray, List.getElem_cons_zero, List.getElem_cons_succ, List.setIfInBounds_toArray, List.set_cons_zero, List.set_cons_succ]
          refine Plan.p_step rfl (by rfl) ?_
          have h6 := h5.pelm (h5.own.new (r + 7) (.cells #[.pointer (some ⟨gp, 0, none⟩)] 25)) (fun t ht => put_other _ _ _ ht) (put_same _ _ _ _)
          refine Plan.at_run rfl (.value (.slice (some ⟨wa5.heap.size, 0, none⟩) 1 1)) _ (.inl rfl) (w' := wa5.alloc (.cells #[.pointer (some ⟨gp, 0, none⟩)] 25)) (by go_simp; try with_reducible rfl) (fun _ _ => HS.out _ _ h6.own h6.rest) ?_
          simp only [Act.put, List.getElem_toArray, List.getElem_cons_zero, List.getElem_cons_succ, List.setIfInBounds_toArray, List.set_cons_zero, List.set_cons_succ]
          clear h5
          generalize put ga5 (r + 7) _ _ = ga6 at *
          generalize wa5.alloc _ = wa6 at *
          generalize wa5.heap.size = g7 at *
          refine Plan.p_step rfl (by rfl) ?_
          refine Plan.at_law rfl fun K hK => ?_
          refine wp_append_V _ _ _ rfl 25 _ 1 8 Try.underlying120 Try.info25 rfl (by decide) h6.own (h6.a2 (by omega)) rfl (m := 1) (news := [.pointer (some ⟨gp, 0, none⟩)]) (.inr ⟨⟨g7, 0, none⟩, 1, rfl, rfl, fun jj u hj => ?_, fun u hu => ?_⟩) rfl (by unfold maxLen; omega) (by omega) fun A7 cap7 wa7 ga7 hA7 ho7 hs7 hk7 => hK _ _ (fun _ _ => ?_) ?_
          · rw [add_plain, Nat.zero_add]
            exact h6.own.cell (h6.p2 (by omega)) (i := jj) (by simpa using hj)
          · simp at hu
            subst hu
            rfl
          · have h7 := h6.papp ho7 hk7 hs7
            exact HS.out _ _ h7.own h7.rest
          have h7 := h6.papp ho7 hk7 hs7
          clear hK h6 ho7 hs7 hk7 hA7
          simp only [Act.put, List.getElem_toArray, List.getElem_cons_zero, List.getElem_cons_succ, List.setIfInBounds_toArray, List.set_cons_zero, List.set_cons_succ]
          refine Plan.p_step rfl (by rfl) ?_
          refine Plan.at_law rfl fun K hK => ?_
          refine wp_append_V _ _ _ rfl 3 _ 1 8 Try.underlying37 Try.info3 rfl (by decide) h7.own h7.a3 rfl (m := 1) (news := [.int .i64 0]) (.inr ⟨⟨g8, 0, none⟩, 1, rfl, rfl, fun jj u hj => ?_, fun u hu => ?_⟩) rfl (by unfold maxLen; omega) (by omega) fun A8 cap8 wa8 ga8 hA8 ho8 hs8 hk8 => hK _ _ (fun _ _ => ?_) ?_
          · rw [add_plain, Nat.zero_add]
            exact h7.own.cell (h7.n rfl) (i := jj) (by simpa using hj)
          · simp at hu
            subst hu
            rfl
          · exact HS.out _ _ ho8 fun t a1 a2 a3 a4 a5 a6 a7 => (hk8 t a3).trans (h7.rest t a1 a2 a3 a4 a5 a6 a7)
          clear hK
          simp only [Act.put, List.getElem_toArray, List.getElem_cons_zero, List.getElem_cons_succ, List.setIfInBounds_toArray, List.set_cons_zero, List.set_cons_succ]
          obtain ⟨⟨u1, hu1⟩, f1, ⟨u2, hu2⟩, f2, ⟨u3, hu3⟩, f3, hN⟩ := HSTEP.out _ _ _ _ _ _ _ _ _ _ _ _ h7 ho8 hk8 hs8
          have HN := Lib.hid hN
          clear hN h7 ho8 hs8 hk8 hA8
          repeat
            refine Plan.p_pure rfl (by rfl) ?_ (fun w' => ?_) ?_
            rotate_left
            · (go_simp; try with_reducible rfl)
            simp only [Act.put, List.getElem_toArray, List.getElem_cons_zero, List.getElem_cons_succ, List.setIfInBounds_toArray, List.set_cons_zero, List.set_cons_succ]
          refine Plan.p_step rfl (by rfl) ?_
          refine Plan.at_run rfl .skip undef (.inr ⟨rfl, rfl⟩) (w' := wa8.setCell ⟨gr, 1, none⟩ (.slice A4 (k + 1) cap4)) (by go_simp; try with_reducible rfl) (Perm.no_need (by kernel_rfl)) ?_
          simp only [Act.put, List.getElem_toArray, List.getElem_cons_zero, List.getElem_cons_succ, List.setIfInBounds_toArray, List.set_cons_zero, List.set_cons_succ]
          repeat
            refine Plan.p_pure rfl (by rfl) ?_ (fun w' => ?_) ?_
            rotate_left
            · (go_simp; try with_reducible rfl)
            simp only [Act.put, List.getElem_toArray, List.getElem_cons_zero, List.getElem_cons_succ, List.setIfInBounds_toArray, List.set_cons_zero, List.set_cons_succ]
          refine Plan.p_step rfl (by rfl) ?_
          refine Plan.at_run rfl .skip undef (.inr ⟨rfl, rfl⟩) (w' := (wa8.setCell ⟨gr, 1, none⟩ (.slice A4 (k + 1) cap4)).setCell ⟨gr, 2, none⟩ (.slice A7 (k + 1) cap7)) (by go_simp; try with_reducible rfl) (Perm.no_need (by kernel_rfl)) ?_
          simp only [Act.put, List.getElem_toArray, List.getElem_cons_zero, List.getElem_cons_succ, List.setIfInBounds_toArray, List.set_cons_zero, List.set_cons_succ]
          repeat
            refine Plan.p_pure rfl (by rfl) ?_ (fun w' => ?_) ?_
            rotate_left
            · (go_simp; try with_reducible rfl)
            simp only [Act.put, List.getElem_toArray, List.getElem_cons_zero, List.getElem_cons_succ, List.setIfInBounds_toArray, List.set_cons_zero, List.set_cons_succ]
          refine Plan.p_step rfl (by rfl) ?_
          refine Plan.at_run rfl .skip undef (.inr ⟨rfl, rfl⟩) (w' := ((wa8.setCell ⟨gr, 1, none⟩ (.slice A4 (k + 1) cap4)).setCell ⟨gr, 2, none⟩ (.slice A7 (k + 1) cap7)).setCell ⟨gr, 3, none⟩ (.slice A8 (k + 1) cap8)) (by go_simp; try with_reducible rfl) (Perm.no_need (by kernel_rfl)) ?_
          simp only [Act.put, List.getElem_toArray, List.getElem_cons_zero, List.getElem_cons_succ, List.setIfInBounds_toArray, List.set_cons_zero, List.set_cons_succ]
          refine Plan.p_done ?_
          go_wp2_with fail
          go_roundw
          case rel => exact HN.out
          case measure => simp [intOf]; omega


      · have h1 := h0.next (h0.own.new (r + 8) (.cells #[.int .i64 0] 3)) (fun t ht => put_other _ _ _ ht) (put_same _ _ _ _)
        refine Plan.at_run rfl (.value (.slice (some ⟨W0.heap.size, 0, none⟩) 1 1)) _ (.inl rfl) (w' := W0.alloc (.cells #[.int .i64 0] 3)) (by go_simp; try with_reducible rfl) (fun _ _ => HS.out _ _ h1.own h1.rest) ?_
        simp only [Act.put, List.getElem_toArray, List.getElem_cons_zero, List.getElem_cons_succ, List.setIfInBounds_toArray, List.set_cons_zero, List.set_cons_succ]
        clear h0
        generalize put G (r + 8) _ _ = ga1 at *
        generalize W0.alloc _ = wa1 at *
        generalize W0.heap.size = g8 at *
        refine Plan.p_step rfl (by rfl) ?_
        refine Plan.at_call rfl 27 _ _ rfl enters27 #[.int .i64 sz] (by rfl) ((rcNew_any h1.own (r + 10 + 4 * k) (r + 11 + 4 * k) (by omega) sz).mono ?_)
        rintro e wa2 ⟨gc, ga2, rfl, ho2, hC2, hk2⟩
        have h2 := h1.cell ho2 hk2 hC2
        clear h1 ho2 hC2 hk2
        refine ⟨_, rfl, (fun _ _ => HS.out _ _ h2.own h2.rest), ?_⟩
        simp only [Act.put, List.getElem_toArray, List.getElem_cons_zero, List.getElem_cons_succ, List.setIfInBounds_toArray, List.set_cons_zero, List.set_cons_succ]
        refine Plan.p_step rfl (by rfl) ?_
        have h3 := h2.celm (h2.own.new (r + 5) (.cells #[.pointer (some ⟨gc, 0, none⟩)] 48)) (fun t ht => put_other _ _ _ ht) (put_same _ _ _ _)
        refine Plan.at_run rfl (.value (.slice (some ⟨wa2.heap.size, 0, none⟩) 1 1)) _ (.inl rfl) (w' := wa2.alloc (.cells #[.pointer (some ⟨gc, 0, none⟩)] 48)) (by go_simp; try with_reducible rfl) (fun _ _ => HS.out _ _ h3.own h3.rest) ?_
        simp only [Act.put, List.getElem_toArray, List.getElem_cons_zero, List.getElem_cons_succ, List.setIfInBounds_toArray, List.set_cons_zero, List.set_cons_succ]
        clear h2
        generalize put ga2 (r + 5) _ _ = ga3 at *
        generalize wa2.alloc _ = wa3 at *
        generalize wa2.heap.size = g5 at *
        refine Plan.p_step rfl (by rfl) ?_
        refine Plan.at_law rfl fun K hK => ?_
        refine wp_append_V _ _ _ rfl 48 _ 1 8 Try.underlying119 Try.info48 rfl (by decide) h3.own (h3.a1 (by omega)) rfl (m := 1) (news := [.pointer (some ⟨gc, 0, none⟩)]) (.inr ⟨⟨g5, 0, none⟩, 1, rfl, rfl, fun jj u hj => ?_, fun u hu => ?_⟩) rfl (by unfold maxLen; omega) (by omega) fun A4 cap4 wa4 ga4 hA4 ho4 hs4 hk4 => hK _ _ (fun _ _ => ?_) ?_
        · rw [add_plain, Nat.zero_add]
          exact h3.own.cell (h3.c2 (by omega)) (i := jj) (by simpa using hj)
        · simp at hu
          subst hu
          rfl
        · have h4 := h3.capp ho4 hk4 hs4
          exact HS.out _ _ h4.own h4.rest
        have h4 := h3.capp ho4 hk4 hs4
        clear hK h3 ho4 hs4 hk4 hA4
        simp only [Act.put, List.getElem_toArray, List.getElem_cons_zero, List.getElem_cons_succ, List.setIfInBounds_toArray, List.set_cons_zero, List.set_cons_succ]
        refine Plan.p_step rfl (by rfl) ?_
        refine Plan.at_call rfl 19 _ _ rfl enters19 #[.int .i64 sz] (by rfl) ((refNew_any h4.own (r + 12 + 4 * k) (r + 13 + 4 * k) sz).mono ?_)
        rintro e wa5 ⟨gp, rfl, ho5, hP5⟩
        have h5 := h4.pump ho5 (fun t ht => put_other _ _ _ ht) hP5
        clear h4 ho5 hP5
        generalize put ga4 (r + 12 + 4 * k) _ _ = ga5 at *
        refine ⟨_, rfl, (fun _ _ => HS.out _ _ h5.own h5.rest), ?_⟩
        simp only [Act.put, List.getElem_toArray, List.getElem_cons_zero, List.getElem_cons_succ, List.setIfInBounds_toArray, List.set_cons_zero, List.set_cons_succ]
        refine Plan.p_step rfl (by rfl) ?_
        have h6 := h5.pelm (h5.own.new (r + 7) (.cells #[.pointer (some ⟨gp, 0, none⟩)] 25)) (fun t ht => put_other _ _ _ ht) (put_same _ _ _ _)
        refine Plan.at_run rfl (.value (.slice (some ⟨wa5.heap.size, 0, none⟩) 1 1)) _ (.inl rfl) (w' := wa5.alloc (.cells #[.pointer (some ⟨gp, 0, none⟩)] 25)) (by go_simp; try with_reducible rfl) (fun _ _ => HS.out _ _ h6.own h6.rest) ?_
        simp only [Act.put, List.getElem_toArray, List.getElem_cons_zero, List.getElem_cons_succ, List.setIfInBounds_toArray, List.set_cons_zero, List.set_cons_succ]
        clear h5
        generalize put ga5 (r + 7) _ _ = ga6 at *
        generalize wa5.alloc _ = wa6 at *
        generalize wa5.heap.size = g7 at *
        refine Plan.p_step rfl (by rfl) ?_
        refine Plan.at_law rfl fun K hK => ?_
        refine wp_append_V _ _ _ rfl 25 _ 1 8 Try.underlying120 Try.info25 rfl (by decide) h6.own (h6.a2 (by omega)) rfl (m := 1) (news := [.pointer (some ⟨gp, 0, none⟩)]) (.inr ⟨⟨g7, 0, none⟩, 1, rfl, rfl, fun jj u hj => ?_, fun u hu => ?_⟩) rfl (by unfold maxLen; omega) (by omega) fun A7 cap7 wa7 ga7 hA7 ho7 hs7 hk7 => hK _ _ (fun _ _ => ?_) ?_
        · rw [add_plain, Nat.zero_add]
          exact h6.own.cell (h6.p2 (by omega)) (i := jj) (by simpa using hj)
        · simp at hu
          subst hu
          rfl
        · have h7 := h6.papp ho7 hk7 hs7
          exact HS.out _ _ h7.own h7.rest
        have h7 := h6.papp ho7 hk7 hs7
        clear hK h6 ho7 hs7 hk7 hA7
        simp only [Act.put, List.getElem_toArray, List.getElem_cons_zero, List.getElem_cons_succ, List.setIfInBounds_toArray, List.set_cons_zero, List.set_cons_succ]
        refine Plan.p_step rfl (by rfl) ?_
        refine Plan.at_law rfl fun K hK => ?_
        refine wp_append_V _ _ _ rfl 3 _ 1 8 Try.underlying37 Try.info3 rfl (by decide) h7.own h7.a3 rfl (m := 1) (news := [.int .i64 0]) (.inr ⟨⟨g8, 0, none⟩, 1, rfl, rfl, fun jj u hj => ?_, fun u hu => ?_⟩) rfl (by unfold maxLen; omega) (by omega) fun A8 cap8 wa8 ga8 hA8 ho8 hs8 hk8 => hK _ _ (fun _ _ => ?_) ?_
        · rw [add_plain, Nat.zero_add]
          exact h7.own.cell (h7.n rfl) (i := jj) (by simpa using hj)
        · simp at hu
          subst hu
          rfl
        · exact HS.out _ _ ho8 fun t a1 a2 a3 a4 a5 a6 a7 => (hk8 t a3).trans (h7.rest t a1 a2 a3 a4 a5 a6 a7)
        clear hK
        simp only [Act.put, List.getElem_toArray, List.getElem_cons_zero, List.getElem_cons_succ, List.setIfInBounds_toArray, List.set_cons_zero, List.set_cons_succ]
        obtain ⟨⟨u1, hu1⟩, f1, ⟨u2, hu2⟩, f2, ⟨u3, hu3⟩, f3, hN⟩ := HSTEP.out _ _ _ _ _ _ _ _ _ _ _ _ h7 ho8 hk8 hs8
        have HN := Lib.hid hN
        clear hN h7 ho8 hs8 hk8 hA8
        repeat
          refine Plan.p_pure rfl (by rfl) ?_ (fun w' => ?_) ?_
          rotate_left
          · (go_simp; try with_reducible rfl)
          simp only [Act.put, List.getElem_toArray, List.getElem_cons_zero, List.getElem_cons_succ, List.setIfInBounds_toArray, List.set_cons_zero, List.set_cons_succ]
        refine Plan.p_step rfl (by rfl) ?_
        refine Plan.at_run rfl .skip undef (.inr ⟨rfl, rfl⟩) (w' := wa8.setCell ⟨gr, 1, none⟩ (.slice A4 (k + 1) cap4)) (by go_simp; try with_reducible rfl) (Perm.no_need (by kernel_rfl)) ?_
        simp only [Act.put, List.getElem_toArray, List.getElem_cons_zero, List.getElem_cons_succ, List.setIfInBounds_toArray, List.set_cons_zero, List.set_cons_succ]
        repeat
          refine Plan.p_pure rfl (by rfl) ?_ (fun w' => ?_) ?_
          rotate_left
          · (go_simp; try with_reducible rfl)
          simp only [Act.put, List.getElem_toArray, List.getElem_cons_zero, List.getElem_cons_succ, List.setIfInBounds_toArray, List.set_cons_zero, List.set_cons_succ]
        refine Plan.p_step rfl (by rfl) ?_
        refine Plan.at_run rfl .skip undef (.inr ⟨rfl, rfl⟩) (w' := (wa8.setCell ⟨gr, 1, none⟩ (.slice A4 (k + 1) cap4)).setCell ⟨gr, 2, none⟩ (.slice A7 (k + 1) cap7)) (by go_simp; try with_reducible rfl) (Perm.no_need (by kernel_rfl)) ?_
        simp only [Act.put, List.getElem_toArray, List.getElem_cons_zero, List.getElem_cons_succ, List.setIfInBounds_toArray, List.set_cons_zero, List.set_cons_succ]
        repeat
          refine Plan.p_pure rfl (by rfl) ?_ (fun w' => ?_) ?_
          rotate_left
          · (go_simp; try with_reducible rfl)
          simp only [Act.put, List.getElem_toArray, List.getElem_cons_zero, List.getElem_cons_succ, List.setIfInBounds_toArray, List.set_cons_zero, List.set_cons_succ]
        refine Plan.p_step rfl (by rfl) ?_
        refine Plan.at_run rfl .skip undef (.inr ⟨rfl, rfl⟩) (w' := ((wa8.setCell ⟨gr, 1, none⟩ (.slice A4 (k + 1) cap4)).setCell ⟨gr, 2, none⟩ (.slice A7 (k + 1) cap7)).setCell ⟨gr, 3, none⟩ (.slice A8 (k + 1) cap8)) (by go_simp; try with_reducible rfl) (Perm.no_need (by kernel_rfl)) ?_
        simp only [Act.put, List.getElem_toArray, List.getElem_cons_zero, List.getElem_cons_succ, List.setIfInBounds_toArray, List.set_cons_zero, List.set_cons_succ]
        refine Plan.p_done ?_
        go_wp2_with fail
        go_roundw
        case rel => exact HN.out
        case measure => simp [intOf]; omega


    · obtain rfl : k = ls.length := by omega
      have hf0 : NAt w0 γ0 r gr gx dv sv A cap ls (.int .i64 (ls.length : Int)) wr := ⟨_, G, cv, pv, nv, vc, vp, nx, rfl, hkl, ho, hr, h0, h6, h1, h2, h3, h4⟩
      have hf := NAt.done HIN.out hf0
      clear hf0
      have HF := Lib.hid hf
      clear hf ho hr h0 h6 h1 h2 h3 h4
      go_wp2_with fail
      go_ret
      exact HF.out
end Go.Proofs.Ytniiefcbiapieaa