/- Links as a state; what Do comes to. -/
import Derived.Test.YtniiefcbiapieaaRd
import Derived.Deep.RegionHeld3
namespace Go.Proofs.Ytniiefcbiapieaa
open Go.RowKit Go.ChangeMaps

def rdR (c : CS) (f : Int → Int → Option (Int × Int)) (d t op a b' : Int) : Int × Int × (Int → Int → Option (Int × Int)) :=
  if op = 30 then (if c.t = 0 then (0, (c.q : Int), fnPut (fnDel f d t) d t a c.q) else (17, 0, fnDel f d t))
  else match f d t with
    | none => (11, 0, f)
    | some x => if x.1 ≠ a then (11, 0, f) else if op = 31 then (c.wordE b', c.wordN b', f) else (c.sameE x.2, 0, fnDel f d t)

def EndS.age : EndS → Nat
  | .cell c => c.q
  | .tap _ all _ => all.length
def updE (en : Nat → EndS) (k : Nat) (e : EndS) : Nat → EndS := fun i => if i = k then e else en i

structure LS where
  ls : List LinkS
  en : Nat → EndS
  f : Int → Int → Option (Int × Int)

def doR (s : LS) (d t op a b' v : Int) : Int × Int × Int × LS :=
  if op < 27 ∨ 34 < op then (1, 0, 0, s)
  else if mayE s.ls d op a ≠ 0 then (mayE s.ls d op a, 0, 0, s)
  else match s.en a.toNat with
    | .tap z all next => if op = 33 then (0, 0, 0, { s with en := updE s.en a.toNat (.tap z (all ++ [b']) next) })
      else (recvE all next, recvV z all next, recvL z all next, { s with en := updE s.en a.toNat (.tap z all (recvA z all next)) })
    | .cell c => if 30 ≤ op then ((rdR c s.f d t op a b').1, (rdR c s.f d t op a b').2.1, 0, { s with f := (rdR c s.f d t op a b').2.2 })
      else (c.wE op t b', 0, 0, { s with en := updE s.en a.toNat (.cell (c.wS op t b' v)) })

def LAt (w0 : World) (γ : Nat → Option (Nat × Obj)) (b gl : Nat) (s : LS) (w : World) : Prop := LinksAt w0 γ b gl s.ls s.en s.f w

def doPost (w0 : World) (γ : Nat → Option (Nat × Obj)) (b gl : Nat) (x : Int × Int × Int × LS) (e : Ending) (w' : World) : Prop :=
  e = .returned (.tuple #[.int .i64 x.1, .int .i64 x.2.1, .int .i64 x.2.2.1]) ∧ ∃ γ', LAt w0 γ' b gl x.2.2.2 w' ∧ ∀ k, (k < b ∨ b + 30 ≤ k) → γ' k = γ k

section
variable {w0 w : World} {γ γ0 : Nat → Option (Nat × Obj)} {b gl gm tc g clock : Nat} {lv ev : Value} {es : Array MapEntry} {f : Int → Int → Option (Int × Int)} {c : CS} {d t k dm pk op a b' v : Int} {g5 : Nat}

theorem read_any (h : ReadAt w0 γ b gl gm tc g clock lv ev es f c w) {d t : Int} (h1 : Fits d) (h2 : Fits t) (k dm pk op a b' v : Int) (hop : 30 ≤ op ∧ op ≤ 32) :
    Calls Try.prog 60 #[.pointer (some ⟨gl, 0, none⟩), .agg #[.int .i64 d, .int .i64 t], .agg #[.int .i64 k, .int .i64 dm, .int .i64 pk, .int .i64 op, .int .i64 a, .int .i64 b', .int .i64 v], .pointer (some ⟨g, 0, none⟩)] w
      (readPost w0 γ b gm (rdR c f d t op a b').2.2 (rdR c f d t op a b').1 (rdR c f d t op a b').2.1) := by
  unfold rdR
  by_cases h30 : op = 30
  · subst h30
    by_cases ht : c.t = 0
    · simp only [if_pos, ht]
      exact read_begin_ok h h1 h2 _ _ _ _ _ _ ht _ rfl
    · simp only [if_pos, if_neg ht]
      exact read_begin_torn h h1 h2 _ _ _ _ _ _ ht
  · simp only [if_neg h30]
    cases hf : f d t with
    | none => exact read_none h h1 h2 _ _ _ _ _ _ _ h30 hf
    | some x =>
      obtain ⟨l, s⟩ := x
      by_cases hl : l = a
      · subst hl
        simp only [ne_eq, not_true_eq_false, if_false]
        by_cases h31 : op = 31
        · simp only [if_pos h31]
          exact read_word h h1 h2 _ _ _ _ _ _ _ h31 s hf _ _ rfl rfl
        · simp only [if_neg h31]
          exact read_end h h1 h2 _ _ _ _ _ _ _ (by omega) s hf _ rfl
      · simp only [ne_eq, hl, not_false_eq_true, if_true]
        exact read_other h h1 h2 _ _ _ _ _ _ _ h30 l s hf hl

theorem LinksAt.keep {ls : List LinkS} {en : Nat → EndS} {f : Int → Int → Option (Int × Int)} {γ' : Nat → Option (Nat × Obj)} {w' : World} (h : LinksAt w0 γ b gl ls en f w) (ho : Own w0 w' γ') (hk : ∀ k, (b ≤ k ∧ k < b + 4) ∨ (b + 10 ≤ k ∧ k < b + 10 + 2 * ls.length) → γ' k = γ k) : LinksAt w0 γ' b gl ls en f w' := by
  obtain ⟨_, lv, ev, gm, es, clock, vs, h0, h1, h2, h3, h4, h5⟩ := h
  refine ⟨ho, lv, ev, gm, es, clock, vs, by rw [hk _ (by omega)]; exact h0, by rw [hk _ (by omega)]; exact h1, h2, h3.keep (hk _ (by omega)), h4.keep (hk _ (by omega)), fun i l hi => (h5 i l hi).keep (hk _ ?_) (hk _ ?_)⟩
  all_goals
    have := (List.getElem?_eq_some_iff.1 hi).1
    omega

theorem LinksAt.below' {ls : List LinkS} {en : Nat → EndS} {f : Int → Int → Option (Int × Int)} {w' : World} (h : LinksAt w0 γ b gl ls en f w) (hb : Below w.heap.size w w') : LinksAt w0 γ b gl ls en f w' :=
  h.keep (h.own.below' hb) fun _ _ => rfl

/-- One end is another now, the map perhaps too. -/
theorem LinksAt.turn {ls : List LinkS} {en en' : Nat → EndS} {f f' : Int → Int → Option (Int × Int)} {γ' : Nat → Option (Nat × Obj)} {w' : World} (h : LinksAt w0 γ b gl ls en f w) (ho : Own w0 w' γ') {j : Nat} {l : LinkS} (hl : ls[j]? = some l)
    (hk : ∀ k, (b ≤ k ∧ k < b + 4 ∧ k ≠ b + 1) ∨ (b + 10 ≤ k ∧ k < b + 10 + 2 * ls.length ∧ k ≠ b + 10 + 2 * j ∧ k ≠ b + 11 + 2 * j) → γ' k = γ k)
    (hm : ∀ gm es clock, γ (b + 1) = some (gm, .map es clock) → ∃ es' clock', γ' (b + 1) = some (gm, .map es' clock') ∧ (MapFn es.toList f → MapFn es'.toList f'))
    (he : ∀ u, EndAt γ (b + 10 + 2 * j) u l.kind (en j) → EndAt γ' (b + 10 + 2 * j) u l.kind (en' j)) (hen : ∀ i, i ≠ j → en' i = en i) : LinksAt w0 γ' b gl ls en' f' w' := by
  obtain ⟨_, lv, ev, gm, es, clock, vs, h0, h1, h2, h3, h4, h5⟩ := h
  obtain ⟨es', clock', hm1, hm2⟩ := hm gm es clock h1
  refine ⟨ho, lv, ev, gm, es', clock', vs, by rw [hk _ (by omega)]; exact h0, hm1, hm2 h2, h3.keep (hk _ (by omega)), h4.keep (hk _ (by omega)), fun i l' hi => ?_⟩
  by_cases e : i = j
  · subst e
    rw [hl] at hi
    cases hi
    exact he _ (h5 i l hl)
  · rw [hen i e]
    have := (List.getElem?_eq_some_iff.1 hi).1
    exact (h5 i l' hi).keep (hk _ (by omega)) (hk _ (by omega))

theorem LAt.drewN {s : LS} (h : LAt w0 γ b gl s w) (n : Nat) : LAt w0 γ b gl s (w.drewN n) := LinksAt.below' h ⟨rfl, rfl, rfl, Nat.le_refl _, fun _ _ => rfl⟩

/-- The entry in its box. -/
theorem LAt.box {s : LS} (h : LAt w0 γ b gl s w) (o : Obj) : LAt w0 (put γ (b + 4) w.heap.size o) b gl s (w.alloc o) :=
  LinksAt.keep h (h.own.new _ o) fun k hk => put_other _ _ _ (by omega)

theorem do_nil (d t k dm pk op a b' v : Int) (w : World) :
    Calls Try.prog 41 #[.pointer none, .int .i64 d, .int .i64 t, .agg #[.int .i64 k, .int .i64 dm, .int .i64 pk, .int .i64 op, .int .i64 a, .int .i64 b', .int .i64 v]] w fun e w' => e = .returned (.tuple #[.int .i64 1, .int .i64 0, .int .i64 0]) ∧ Below w.heap.size w w' := by
  have hb := (Below.refl w.heap.size w).alloc (Nat.le_refl _) (entO k dm pk op a b' v)
  unfold entO at hb
  go_enter Try.func41, Try.ntmps41
  go_wp2_with fail
  refine bodyPost_ret (results_tmp3 rfl _ _ _) rfl ?_
  exact ⟨rfl, hb⟩

def doSame (w0 : World) (γ : Nat → Option (Nat × Obj)) (b gl : Nat) (x : Int) (s : LS) (e : Ending) (w' : World) : Prop :=
  e = .returned (.tuple #[.int .i64 x, .int .i64 0, .int .i64 0]) ∧ ∃ γ', LAt w0 γ' b gl s w' ∧ ∀ k, (k < b ∨ b + 30 ≤ k) → γ' k = γ k

theorem do_low {s : LS} (h : LAt w0 γ b gl s w) (d t k dm pk op a b' v : Int) (hop : op < 27) :
    Calls Try.prog 41 #[.pointer (some ⟨gl, 0, none⟩), .int .i64 d, .int .i64 t, .agg #[.int .i64 k, .int .i64 dm, .int .i64 pk, .int .i64 op, .int .i64 a, .int .i64 b', .int .i64 v]] w (doSame w0 γ b gl 1 s) := by
  have hfin : doSame w0 γ b gl 1 s (.returned (.tuple #[.int .i64 1, .int .i64 0, .int .i64 0])) (w.alloc (entO k dm pk op a b' v)) := ⟨rfl, _, h.box _, fun k hk => put_other _ _ _ (by omega)⟩
  unfold entO at hfin
  clear h
  go_enter Try.func41, Try.ntmps41
  go_wp2_with fail
  refine bodyPost_ret (results_tmp3 rfl _ _ _) rfl ?_
  exact hfin

theorem do_high {s : LS} (h : LAt w0 γ b gl s w) (d t k dm pk op a b' v : Int) (hop : 34 < op) :
    Calls Try.prog 41 #[.pointer (some ⟨gl, 0, none⟩), .int .i64 d, .int .i64 t, .agg #[.int .i64 k, .int .i64 dm, .int .i64 pk, .int .i64 op, .int .i64 a, .int .i64 b', .int .i64 v]] w (doSame w0 γ b gl 1 s) := by
  have hfin : doSame w0 γ b gl 1 s (.returned (.tuple #[.int .i64 1, .int .i64 0, .int .i64 0])) (w.alloc (entO k dm pk op a b' v)) := ⟨rfl, _, h.box _, fun k hk => put_other _ _ _ (by omega)⟩
  unfold entO at hfin
  clear h
  go_enter Try.func41, Try.ntmps41
  go_wp2_with fail
  refine bodyPost_ret (results_tmp3 rfl _ _ _) rfl ?_
  exact hfin

set_option maxRecDepth 100000 in
set_option maxHeartbeats 4000000 in
theorem do_no {s : LS} (h : LAt w0 γ b gl s w) (h10 : s.ls.length ≤ 10) (d t k dm pk op a b' v : Int) (hlo : 27 ≤ op) (hhi : op ≤ 34) (x : Int) (hx : mayE s.ls d op a = x) (hx0 : x ≠ 0) :
    Calls Try.prog 41 #[.pointer (some ⟨gl, 0, none⟩), .int .i64 d, .int .i64 t, .agg #[.int .i64 k, .int .i64 dm, .int .i64 pk, .int .i64 op, .int .i64 a, .int .i64 b', .int .i64 v]] w (doSame w0 γ b gl x s) := by
  have h1 := h.box (entO k dm pk op a b' v)
  have hm := may_any h1 h10 k dm pk op a b' v d
  rw [hx] at hm
  have hfin : ∀ w', Below (w.alloc (entO k dm pk op a b' v)).heap.size (w.alloc (entO k dm pk op a b' v)) w' → doSame w0 γ b gl x s (.returned (.tuple #[.int .i64 x, .int .i64 0, .int .i64 0])) w' := fun w' hb => ⟨rfl, _, LinksAt.below' h1 hb, fun k hk => put_other _ _ _ (by omega)⟩
  have bx : (x != 0) = true := by simpa using hx0
  unfold entO at hfin hm
  clear h h1 hx hx0
  go_enter Try.func41, Try.ntmps41
  go_wp2_with fail
  refine hm.mono ?_
  rintro e w1 ⟨rfl, hb⟩
  have hf := hfin _ hb
  clear hfin hb hm
  go_wp2_with fail
  refine bodyPost_ret (results_tmp3 rfl _ _ _) rfl ?_
  exact hf
end
end Go.Proofs.Ytniiefcbiapieaa
