/- The reference forgets a task's read. -/
import Derived.Test.YtniiefcbiapieaaRefWr
import Derived.Test.YtniiefcbiapieaaApp
import Derived.Test.YtniiefcbiapieaaPerm
import Derived.Deep.CutBlock
namespace Go.Proofs.Ytniiefcbiapieaa
open Go.RowKit Go.ChangeMaps Go.WideShapes

/-- An object by another name. -/
def mv (γ : Nat → Option (Nat × Obj)) (a b : Nat) : Nat → Option (Nat × Obj) := fun k => if k = a then γ b else if k = b then none else γ k
theorem mv_at (γ : Nat → Option (Nat × Obj)) (a b : Nat) : mv γ a b a = γ b := if_pos rfl
theorem mv_other (γ : Nat → Option (Nat × Obj)) {a b k : Nat} (h1 : k ≠ a) (h2 : k ≠ b) : mv γ a b k = γ k := by unfold mv; rw [if_neg h1, if_neg h2]
theorem Own.mv {w0 w : World} {γ : Nat → Option (Nat × Obj)} (h : Own w0 w γ) {a b : Nat} (hab : a ≠ b) : Own w0 w (mv γ a b) := by
  have key : ∀ k x, Ytniiefcbiapieaa.mv γ a b k = some x → (k = a ∧ γ b = some x) ∨ (k ≠ a ∧ k ≠ b ∧ γ k = some x) := by
    intro k x hk
    unfold Ytniiefcbiapieaa.mv at hk
    split at hk
    · rename_i e; exact .inl ⟨e, hk⟩
    · split at hk
      · cases hk
      · rename_i e1 e2; exact .inr ⟨e1, e2, hk⟩
  refine ⟨h.below, fun t g o ht => ?_, fun t t' g o o' h1 h2 => ?_⟩
  · rcases key _ _ ht with ⟨_, e⟩ | ⟨_, _, e⟩ <;> exact h.own _ _ _ e
  · rcases key _ _ h1 with ⟨e1, k1⟩ | ⟨e1, e1', k1⟩ <;> rcases key _ _ h2 with ⟨e2, k2⟩ | ⟨e2, e2', k2⟩
    · rw [e1, e2]
    · exact absurd (h.inj _ _ _ _ _ k1 k2).symm e2'
    · exact absurd (h.inj _ _ _ _ _ k1 k2) e1'
    · exact h.inj _ _ _ _ _ k1 k2

theorem Try.info126 : (Try.prog.info? 126).map (fun i => (i.zero, i.size, i.bytes)) = some (some (.agg #[.int .i64 0, .int .i64 0, .int .i64 0, .int .i64 0]), 4, 32) := by kernel_rfl
theorem run_empty121 (w : World) : (Instr.buildSlice 121 0 #[]).run Try.prog w = .ok (.slice (some ⟨w.heap.size, 0, none⟩) 0 0) (w.alloc (.cells #[] 126)) := by
  obtain ⟨i0, hi, hz0, hz1, hz2⟩ := info_parts Try.info126
  simp [Instr.buildSlice, run_underlying Try.underlying121, sizeOf, typeInfo, hi, newRow, Instr.fill, Array.range_zero']

theorem linkVals_append (a b : List LinkS) : linkVals (a ++ b) = linkVals a ++ linkVals b := by simp [linkVals]
theorem linkVals_take (l : List LinkS) (i : Nat) : linkVals (l.take i) = (linkVals l).take (i * 4) := by
  induction l generalizing i with
  | nil => simp [linkVals]
  | cons a l ih =>
    cases i with
    | zero => simp [linkVals]
    | succ i =>
      have e : linkVals (a :: l) = a.vals ++ linkVals l := by simp [linkVals]
      have e2 : linkVals ((a :: l).take (i + 1)) = a.vals ++ linkVals (l.take i) := by simp [linkVals]
      have hl : a.vals.length = 4 := rfl
      rw [e, e2, ih, List.take_append, List.take_of_length_le (by omega : a.vals.length ≤ (i + 1) * 4), hl]
      congr 2
      omega
theorem linkVals_drop (l : List LinkS) (i : Nat) : linkVals (l.drop i) = (linkVals l).drop (i * 4) := by
  induction l generalizing i with
  | nil => simp [linkVals]
  | cons a l ih =>
    cases i with
    | zero => simp
    | succ i =>
      have e : linkVals (a :: l) = a.vals ++ linkVals l := by simp [linkVals]
      have hl : a.vals.length = 4 := rfl
      rw [e, List.drop_succ_cons, ih, List.drop_append, List.drop_of_length_le (by omega : a.vals.length ≤ (i + 1) * 4), hl, List.nil_append]
      congr 1
      omega
theorem SliceAt.keep' {γ γ' : Nat → Option (Nat × Obj)} {t t' : Nat} {e : TypeId} {size n : Nat} {v : Value} {xs : List Value} (hs : SliceAt γ t e size v n xs) (hk : γ' t' = γ t) : SliceAt γ' t' e size v n xs := by
  refine ⟨hs.1, ?_⟩
  rcases hs.2 with hn | ⟨g, cap, cur, h1, h2, r⟩
  · exact .inl hn
  · exact .inr ⟨g, cap, cur, h1, by rw [hk]; exact h2, r⟩

def rfPost (w0 : World) (γ : Nat → Option (Nat × Obj)) (r gr : Nat) (A : Option Addr) (cap q : Nat) (s : LS) (e : Ending) (w' : World) : Prop :=
  e = .returned (.tuple #[]) ∧ ∃ γ', RefL w0 γ' r gr A cap q s w' ∧ ∀ k, k ≠ r → k ≠ r + 4 → k ≠ r + 5 → γ' k = γ k

section
variable {w0 w : World} {γ : Nat → Option (Nat × Obj)} {r gr cap q : Nat} {A : Option Addr} {s : LS}

/-- Other reads now. -/
theorem RefL.reads {γ' : Nat → Option (Nat × Obj)} {w' : World} {q' : Nat} {f : Int → Int → Option (Int × Int)} {rd' : List LinkS} {rv' : Value} (h : RefL w0 γ r gr A cap q s w) (ho : Own w0 w' γ')
    (h0 : ∀ a b c d rv, γ r = some (gr, .cells #[a, b, c, d, rv] 123 (0, 0)) → γ' r = some (gr, .cells #[a, b, c, d, rv'] 123 (0, 0)))
    (h4 : SliceAt γ' (r + 4) 126 4 rv' rd'.length (linkVals rd')) (hf : RelF f rd') (hq : rd'.length ≤ q')
    (hk : ∀ k, (r + 1 ≤ k ∧ k < r + 4) ∨ (r + 10 ≤ k ∧ k < r + 10 + 4 * s.ls.length) → γ' k = γ k) : RefL w0 γ' r gr A cap q' { s with f := f } w' := by
  obtain ⟨_, hin, cv, pv, nv, rv, vc, vp, nx, rd, a0, a1, a2, a3, a4, a5, a6, a7⟩ := h
  refine ⟨ho, hin, cv, pv, nv, rv', vc, vp, nx, rd', h0 _ _ _ _ _ a0, a1.keep (hk _ (by omega)), a2.keep (hk _ (by omega)), a3.keep (hk _ (by omega)), h4, hf, hq, fun i l hi => (a7 i l hi).keep fun k _ _ => hk k ?_⟩
  have : i < s.ls.length := (List.getElem?_eq_some_iff.1 hi).1
  omega

theorem refAt_all {rv cv pv nv lv : Value} {rd : List LinkS} (ho : Own w0 w γ) (h0 : γ r = some (gr, .cells #[lv, cv, pv, nv, rv] 123 (0, 0))) (h4 : SliceAt γ (r + 4) 126 4 rv rd.length (linkVals rd)) (hq : rd.length ≤ 10000) (d t : Int) :
    Calls Try.prog 62 #[.pointer (some ⟨gr, 0, none⟩), .int .i64 d, .int .i64 t] w fun e w' => e = .returned (.int .i64 (atI rd d t)) ∧ w = w' := by
  rcases h4.2 with ⟨rfl, hn⟩ | ⟨g, c, cur, rfl, _⟩
  · have : rd = [] := List.eq_nil_of_length_eq_zero hn
    subst this
    exact refAt_nil ho h0 d t
  · exact refAt_any ho h0 h4 rfl hq d t

theorem atI_cases (rd : List LinkS) (d t : Int) : (atI rd d t = -1 ∧ ∀ x ∈ rd, isRd d t x = false) ∨ ∃ i x, atI rd d t = (i : Nat) ∧ rd[i]? = some x ∧ isRd d t x = true := by
  unfold atI
  cases h : rd.findIdx? (isRd d t) with
  | none =>
    rw [List.findIdx?_eq_none_iff] at h
    exact .inl ⟨rfl, fun x hx => by simpa using h x hx⟩
  | some i =>
    rw [List.findIdx?_eq_some_iff_getElem] at h
    obtain ⟨hlt, he, _⟩ := h
    exact .inr ⟨i, rd[i], rfl, List.getElem?_eq_getElem hlt, he⟩

set_option maxRecDepth 100000 in
set_option maxHeartbeats 4000000 in
theorem refForget_any (h : RefL w0 γ r gr A cap q s w) (hq : q ≤ 1000) (d t : Int) :
    Calls Try.prog 46 #[.pointer (some ⟨gr, 0, none⟩), .int .i64 d, .int .i64 t] w (rfPost w0 γ r gr A cap q { s with f := fnDel s.f d t }) := by
  have h' := h
  obtain ⟨ho, hin, cv, pv, nv, rv, vc, vp, nx, rd, a0, a1, a2, a3, a4, a5, a6, a7⟩ := h'
  have hat := refAt_all ho a0 a4 (by omega) d t
  rcases atI_cases rd d t with ⟨hi, hno⟩ | ⟨i, x, hi, hx, hm⟩
  · rw [hi] at hat
    have hfin : rfPost w0 γ r gr A cap q { s with f := fnDel s.f d t } (.returned (.tuple #[])) w :=
      ⟨rfl, γ, h.reads ho (fun a b c d' rv' e => by rw [a0] at e ⊢; cases e; rfl) a4 (a5.same (a5.no hno)) a6 (fun _ _ => rfl), fun _ _ _ _ => rfl⟩
    have HF := Lib.hid hfin
    clear h ho hin a0 a1 a2 a3 a4 a5 a6 a7 hi hno hfin
    go_enter Try.func46, Try.ntmps46
    go_wp2_with fail
    refine hat.mono ?_
    rintro e w1 ⟨rfl, rfl⟩
    go_wp2_with fail
    go_end0
    exact HF.out
  · have hlt : i < rd.length := (List.getElem?_eq_some_iff.1 hx).1
    rw [hi] at hat
    rcases a4.2 with ⟨_, hn⟩ | ⟨g, c, cur, rfl, _, hnc, hcm, _⟩
    · omega
    unfold maxLen at hcm
    have hone := links_one rd
    have hlen := linkVals_length rd
    obtain ⟨n, hn⟩ : ∃ n, n = rd.length := ⟨_, rfl⟩
    rw [← hn] at a4 hlt hnc
    -- the new slice, the two parts of the old one
    have hpart1 : ∀ w' γ', Own w0 w' γ' → γ' (r + 4) = γ (r + 4) → Reads w' 4 (.slice (some ⟨g, 0, none⟩) i c) i (linkVals (rd.take i)) := by
      intro w' γ' ho' hk'
      rw [linkVals_take]
      have := (a4.keep hk').part ho' hone 0 i c 0 (by omega) (.inr (by simp))
      simpa using this
    have hpart2 : ∀ w' γ', Own w0 w' γ' → γ' (r + 4) = γ (r + 4) → ∀ oo c', (if c = i + 1 then some (⟨g, 0, none⟩ : Addr) else some ⟨g, (i + 1) * 4, none⟩) = oo → Reads w' 4 (.slice oo (n - (i + 1)) c') (n - (i + 1)) (linkVals (rd.drop (i + 1))) := by
      intro w' γ' ho' hk' oo c' hoo
      have e : linkVals (rd.drop (i + 1)) = ((linkVals rd).drop ((i + 1) * 4)).take ((n - (i + 1)) * 4) := by
        rw [linkVals_drop, List.take_of_length_le]
        rw [List.length_drop, hlen]; omega
      rw [e]
      by_cases hc : c = i + 1
      · rw [if_pos hc] at hoo
        subst hoo
        exact (a4.keep hk').part ho' hone (i + 1) (n - (i + 1)) c' 0 (by omega) (.inl (by omega))
      · rw [if_neg hc] at hoo
        subst hoo
        exact (a4.keep hk').part ho' hone (i + 1) (n - (i + 1)) c' _ (by omega) (.inr rfl)
    have hrel := a5.del hx hm
    have hfin : ∀ w' γ' A' cap', Own w0 w' γ' → SliceAt γ' (r + 5) 126 4 (.slice A' (i + (n - (i + 1))) cap') (i + (n - (i + 1))) (linkVals (rd.take i) ++ linkVals (rd.drop (i + 1))) → (∀ k, k ≠ r + 5 → γ' k = γ k) →
        (∃ u, w'.cell? ⟨gr, 4, none⟩ = some u) ∧ w'.frozen? ⟨gr, 4, none⟩ = false ∧ rfPost w0 γ r gr A cap q { s with f := fnDel s.f d t } (.returned (.tuple #[])) (w'.setCell ⟨gr, 4, none⟩ (.slice A' (i + (n - (i + 1))) cap')) := by
      intro w' γ' A' cap' ho' hs' hk'
      have g0 : γ' r = _ := (hk' r (by omega)).trans a0
      have hset := ho'.set g0 4 (.slice A' (i + (n - (i + 1))) cap')
      refine ⟨⟨_, ho'.cell g0 (i := 4) rfl⟩, ho'.free g0 4, rfl, _, h.reads (rv' := .slice A' (i + (n - (i + 1))) cap') (hset.mv (a := r + 4) (b := r + 5) (by omega)) ?_ ?_ hrel ?_ ?_, ?_⟩
      · intro a b c' d' rv' e
        rw [mv_other _ (by omega) (by omega), put_same]
        rw [a0] at e
        cases e
        rfl
      · have e : (rd.take i ++ rd.drop (i + 1)).length = i + (n - (i + 1)) := by rw [List.length_append, List.length_take, List.length_drop]; omega
        rw [e, linkVals_append]
        exact hs'.keep' (by rw [mv_at, put_other _ _ _ (by omega)])
      · rw [List.length_append, List.length_take, List.length_drop]; omega
      · intro k hk
        rw [mv_other _ (by omega) (by omega), put_other _ _ _ (by omega)]
        exact hk' k (by omega)
      · intro k k1 k2 k3
        rw [mv_other _ (by omega) (by omega), put_other _ _ _ (by omega)]
        exact hk' k (by omega)
    have c4 := ho.cell a0 (i := 4) (v := .slice (some ⟨g, 0, none⟩) n c) (by rw [hn]; rfl)
    have HF := Lib.hid hfin
    have H1 := Lib.hid hpart1
    have H2 := Lib.hid hpart2
    have HO := Lib.hid ho
    rw [← hn] at a0
    have HA := Lib.hid a0
    have hi9 : n ≤ 1000 := by omega
    have hic : i ≤ c := by omega
    have hi1 : i + 1 ≤ n := by omega
    have s4 : (i : Int) + 1 ≤ n := by omega
    have s1 : (0 : Int) ≤ (i : Int) + 1 := by omega
    have s2 : ((i : Int) + 1).toNat = i + 1 := by omega
    have s3 : IntKind.i64.wrap ((i : Int) + 1) = (i : Int) + 1 := IntWalk.i64_in _ (by omega)
    clear h ho hin a0 a1 a2 a3 a4 a5 a6 a7 hi hx hm hfin hpart1 hpart2 hone hlen hn hrel
    go_enter Try.func46, Try.ntmps46
    go_wp2_with fail
    refine hat.mono ?_
    rintro e w1 ⟨rfl, rfl⟩
    go_wp2_with fail
    refine Perm.wp_region_pre [0, 2, 3, 4, 5, 6, 7, 9, 10, 11, 12, 13, 14, 15] [1, 8, 16, 17, 18, 19] (fun w' => w'.cell? ⟨gr, 4, none⟩ = some (.slice (some ⟨g, 0, none⟩) n c)) (by kernel_rfl) (by kernel_rfl) (fun _ _ _ _ _ h => h) (by simpa using c4) ?_
    repeat
      refine Perm.light_step rfl ?_ (fun w' hS => ?_) ?_
      rotate_left
      · ((try dsimp only at hS); go_simp; try with_reducible rfl)
      simp only [Act.put, List.getElem_toArray, List.getElem_cons_zero, List.getElem_cons_succ, List.setIfInBounds_toArray, List.set_cons_zero, List.set_cons_succ]
    refine Perm.light_nil ?_
    generalize hoo : (if c = i + 1 then some (⟨g, 0, none⟩ : Addr) else some ⟨g, (i + 1) * 4, none⟩) = oo
    have HOO := Lib.hid hoo
    clear hoo
    have ho1 := HO.out.drew.new (r + 5) (.cells #[] 126)
    have hs1 : SliceAt (put γ (r + 5) w.drew.heap.size (.cells #[] 126)) (r + 5) 126 4 (.slice (some ⟨w.drew.heap.size, 0, none⟩) 0 0) 0 [] := ⟨rfl, .inr ⟨_, 0, _, rfl, put_same _ _ _ _, Nat.le_refl _, by omega, rfl, rfl⟩⟩
    have hk1 : ∀ k, k ≠ r + 5 → put γ (r + 5) w.drew.heap.size (.cells #[] 126) k = γ k := fun k hk => put_other _ _ _ hk
    refine Perm.tail_run rfl (by rfl) (.value (.slice (some ⟨w.drew.heap.size, 0, none⟩) 0 0)) _ (.inl rfl) (w' := w.drew.alloc (.cells #[] 126)) (by simp [execOp, run_empty121, Result.andThen]) (fun _ _ => ho1.cell ((hk1 r (by omega)).trans HA.out) (i := 4) rfl) ?_
    simp only [Act.put, List.getElem_toArray, List.getElem_cons_zero, List.getElem_cons_succ, List.setIfInBounds_toArray, List.set_cons_zero, List.set_cons_succ]
    generalize w.drew.alloc _ = w1 at *
    generalize w.drew.heap.size = g1 at *
    generalize put γ _ _ _ = γ1 at *
    refine Perm.tail_law rfl (by rfl) fun K hK => ?_
    refine wp_append_V _ _ _ rfl 126 _ 4 32 Try.underlying121 Try.info126 rfl (by decide) ho1 hs1 rfl (H1.out w1 γ1 ho1 (hk1 _ (by omega))) rfl (by unfold maxLen; omega) (by omega) fun A2 cap2 w2 γ2 hA2 ho2 hs2 hk2 => hK _ _ (fun _ _ => ?_) ?_
    · exact ho2.cell ((hk2 r (by omega)).trans ((hk1 r (by omega)).trans HA.out)) (i := 4) rfl
    clear hK
    simp only [Act.put, List.getElem_toArray, List.getElem_cons_zero, List.getElem_cons_succ, List.setIfInBounds_toArray, List.set_cons_zero, List.set_cons_succ]
    refine Perm.tail_law rfl (by rfl) fun K hK => ?_
    have hk2' : ∀ k, k ≠ r + 5 → γ2 k = γ k := fun k hk => (hk2 k hk).trans (hk1 k hk)
    refine wp_append_V _ _ _ rfl 126 _ 4 32 Try.underlying121 Try.info126 rfl (by decide) ho2 hs2 rfl (H2.out w2 γ2 ho2 (hk2' _ (by omega)) oo (c - (i + 1)) HOO.out) rfl (by unfold maxLen; omega) (by omega) fun A3 cap3 w3 γ3 hA3 ho3 hs3 hk3 => hK _ _ (fun _ _ => ?_) ?_
    · exact ho3.cell ((hk3 r (by omega)).trans ((hk2' r (by omega)).trans HA.out)) (i := 4) rfl
    clear hK
    simp only [Act.put, List.getElem_toArray, List.getElem_cons_zero, List.getElem_cons_succ, List.setIfInBounds_toArray, List.set_cons_zero, List.set_cons_succ]
    simp only [Nat.zero_add, List.nil_append] at hs3 ⊢
    obtain ⟨⟨u, hu⟩, hfr, hF⟩ := HF.out w3 γ3 A3 cap3 ho3 hs3 fun k hk => (hk3 k hk).trans (hk2' k hk)
    have HF3 := Lib.hid hF
    clear hF ho3 hs3 hk3 ho2 hs2 hk2 hk2' ho1 hs1 hk1 hA2 hA3
    repeat
      refine Perm.tail_pure rfl (by rfl) ?_ (fun w' => ?_) ?_
      rotate_left
      · (go_simp; try with_reducible rfl)
      simp only [Act.put, List.getElem_toArray, List.getElem_cons_zero, List.getElem_cons_succ, List.setIfInBounds_toArray, List.set_cons_zero, List.set_cons_succ]
    refine Perm.tail_run rfl (by rfl) .skip undef (.inr ⟨rfl, rfl⟩) (w' := w3.setCell ⟨gr, 4, none⟩ (.slice A3 (i + (n - (i + 1))) cap3)) (by go_simp; try with_reducible rfl) (Perm.no_need (by kernel_rfl)) ?_
    simp only [Act.put, List.getElem_toArray, List.getElem_cons_zero, List.getElem_cons_succ, List.setIfInBounds_toArray, List.set_cons_zero, List.set_cons_succ]
    refine Perm.tail_nil ?_
    go_wp2_with fail
    go_end0
    exact HF3.out
end
end Go.Proofs.Ytniiefcbiapieaa
