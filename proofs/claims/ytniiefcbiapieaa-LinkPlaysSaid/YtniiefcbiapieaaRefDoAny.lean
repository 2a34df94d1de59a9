/- The reference's Do, whatever is asked: what the links' own Do comes to. A task forgotten, at links wherever they lie. -/
import Derived.Test.YtniiefcbiapieaaRefDo2
namespace Go.Proofs.Ytniiefcbiapieaa
open Go.RowKit Go.ChangeMaps

theorem upB_true {op : Int} (h : (27 ≤ op ∧ op ≤ 29) ∨ op = 33) : upB op = true := by
  have : op = 27 ∨ op = 28 ∨ op = 29 ∨ op = 33 := by omega
  rcases this with h | h | h | h <;> subst h <;> rfl
theorem upB_false {op : Int} (h : (30 ≤ op ∧ op ≤ 32) ∨ op = 34) : upB op = false := by
  have : op = 30 ∨ op = 31 ∨ op = 32 ∨ op = 34 := by omega
  rcases this with h | h | h | h <;> subst h <;> rfl

theorem refDo_any {w0 w : World} {γ : Nat → Option (Nat × Obj)} {r gr cap q : Nat} {A : Option Addr} {s : LS} (h : RefL w0 γ r gr A cap q s w) (hq : q < 999) (hage : ∀ i, i < s.ls.length → (s.en i).age < 999) (d t k dm pk op a b' v : Int) :
    Calls Try.prog 47 #[.pointer (some ⟨gr, 0, none⟩), .int .i64 d, .int .i64 t, .agg #[.int .i64 k, .int .i64 dm, .int .i64 pk, .int .i64 op, .int .i64 a, .int .i64 b', .int .i64 v]] w (rdPost w0 γ r gr A cap (q + 1) (doR s d t op a b' v)) := by
  unfold doR
  by_cases h1 : op < 27
  · rw [if_pos (.inl h1)]
    exact rdo_low h d t k dm pk op a b' v h1
  by_cases h2 : 34 < op
  · rw [if_pos (.inr h2)]
    exact rdo_high h d t k dm pk op a b' v h2
  rw [if_neg (by omega)]
  by_cases hn : a < 0
  · have hm : mayE s.ls d op a = 7 := if_pos (.inl hn)
    rw [hm, if_pos (by decide)]
    exact rdo_neg h d t k dm pk op a b' v (by omega) (by omega) hn
  by_cases hf : (s.ls.length : Int) ≤ a
  · have hm : mayE s.ls d op a = 7 := if_pos (.inr hf)
    rw [hm, if_pos (by decide)]
    exact rdo_far h d t k dm pk op a b' v (by omega) (by omega) hf
  obtain ⟨j, rfl⟩ : ∃ j : Nat, a = j := ⟨a.toNat, by omega⟩
  have hj : j < s.ls.length := by omega
  have hl : s.ls[j]? = some s.ls[j] := List.getElem?_eq_getElem hj
  obtain ⟨vc, vp, nx, pb, off, g1, c1, g2, c2, g3, c3, rv, _, hend⟩ := h.at_ hl
  have ha := hage j hj
  have hm0 : mayE s.ls d op (j : Int) = if (s.ls[j].kind = 1) ≠ (op ≤ 32) then 8 else if d ≠ (if upB op then s.ls[j].from_ else s.ls[j].to) then 10 else 0 := by
    unfold mayE
    rw [if_neg (by omega), Int.toNat_natCast, hl]
  rw [Int.toNat_natCast]
  generalize s.ls[j] = l at *
  obtain ⟨kind, fr, tow, size⟩ := l
  obtain ⟨gc, gp, c', z', all', _, _, _, _, _, _, _, _, hmt⟩ := hend
  dsimp only at hmt hm0 ⊢
  have hno : ∀ x : Int, x ≠ 0 → mayE s.ls d op (j : Int) = x → ∀ y : Int × Int × Int × LS, (if mayE s.ls d op (j : Int) ≠ 0 then (mayE s.ls d op (j : Int), 0, 0, s) else y) = (x, 0, 0, s) := fun x hx e y => by rw [e, if_pos hx]
  have hyes : mayE s.ls d op (j : Int) = 0 → ∀ y : Int × Int × Int × LS, (if mayE s.ls d op (j : Int) ≠ 0 then (mayE s.ls d op (j : Int), 0, 0, s) else y) = y := fun e y => if_neg (by rw [e]; decide)
  cases he : s.en j with
  | cell c =>
    rw [he] at hmt ha
    obtain ⟨rfl, _⟩ := hmt
    by_cases hk : op ≤ 32
    · by_cases h29 : op ≤ 29
      · have hu := upB_true (op := op) (.inl ⟨by omega, h29⟩)
        by_cases hs : d = fr
        · subst hs
          rw [hyes (by rw [hm0, hu]; simp [hk])]
          dsimp only
          rw [if_neg (by omega)]
          have hop : op = 27 ∨ op = 28 ∨ op = 29 := by omega
          rcases hop with rfl | rfl | rfl
          · exact rdo_wbegin h hq d t k dm pk b' v hl he ha
          · exact rdo_write h hq d t k dm pk b' v hl he ha
          · exact rdo_wend h hq d t k dm pk b' v hl he ha
        · rw [hno 10 (by decide) (by rw [hm0, hu]; simp [hk, hs])]
          exact rdo_side1 h hq d t k dm pk op b' v hl (fun e => hs e.symm) (by omega) h29
      · have hu := upB_false (op := op) (.inl ⟨by omega, hk⟩)
        by_cases hs : d = tow
        · subst hs
          rw [hyes (by rw [hm0, hu]; simp [hk])]
          dsimp only
          rw [if_pos (by omega)]
          unfold rdR
          by_cases h30 : op = 30
          · subst h30
            simp only [if_true]
            by_cases ht : c.t = 0
            · rw [if_pos ht]
              exact rdo_begin h hq d t k dm pk b' v hl he ht c.q rfl
            · rw [if_neg ht]
              exact rdo_torn h hq d t k dm pk b' v hl he ht
          · simp only [if_neg h30]
            have hop : op = 31 ∨ op = 32 := by omega
            cases hf' : s.f d t with
            | none =>
              dsimp only
              rcases hop with rfl | rfl
              · exact rdo_none31 h hq d t k dm pk b' v hl he hf'
              · exact rdo_none32 h hq d t k dm pk b' v hl he hf'
            | some x =>
              obtain ⟨l0, q0⟩ := x
              dsimp only
              by_cases hlj : l0 = j
              · subst hlj
                rw [if_neg (by simp)]
                rcases hop with rfl | rfl
                · simp only [if_true]
                  exact rdo_word h hq d t k dm pk b' v hl he hf'
                · simp only [show ¬ ((32 : Int) = 31) by decide, if_false]
                  exact rdo_end h hq d t k dm pk b' v hl he hf'
              · rw [if_pos hlj]
                rcases hop with rfl | rfl
                · exact rdo_other31 h hq d t k dm pk b' v hl he hf' hlj
                · exact rdo_other32 h hq d t k dm pk b' v hl he hf' hlj
        · rw [hno 10 (by decide) (by rw [hm0, hu]; simp [hk, hs])]
          exact rdo_side2 h hq d t k dm pk op b' v hl (fun e => hs e.symm) (by omega) hk
    · rw [hno 8 (by decide) (by rw [hm0]; simp [hk])]
      exact rdo_kind1 h hq d t k dm pk op b' v hl (by omega) (by omega)
  | tap z all next =>
    rw [he] at hmt ha
    obtain ⟨hkd, _⟩ := hmt
    by_cases hk : op ≤ 32
    · rw [hno 8 (by decide) (by rw [hm0]; simp [hk, hkd])]
      exact rdo_kind2 h hq d t k dm pk op b' v hl hkd (by omega) hk
    · have hop : op = 33 ∨ op = 34 := by omega
      rcases hop with rfl | rfl
      · have hu := upB_true (op := 33) (.inr rfl)
        by_cases hs : d = fr
        · subst hs
          rw [hyes (by rw [hm0, hu]; simp [hkd])]
          dsimp only
          simp only [if_true]
          exact rdo_send h hq d t k dm pk b' v hl hkd he ha
        · rw [hno 10 (by decide) (by rw [hm0, hu]; simp [hkd, hs])]
          exact rdo_side3 h hq d t k dm pk b' v hl hkd (fun e => hs e.symm)
      · have hu := upB_false (op := 34) (.inr rfl)
        by_cases hs : d = tow
        · subst hs
          rw [hyes (by rw [hm0, hu]; simp [hkd])]
          dsimp only
          simp only [show ¬ ((34 : Int) = 33) by decide, if_false]
          exact rdo_recv h hq d t k dm pk b' v hl hkd he ha
        · rw [hno 10 (by decide) (by rw [hm0, hu]; simp [hkd, hs])]
          exact rdo_side4 h hq d t k dm pk b' v hl hkd (fun e => hs e.symm)

def lfPost (w0 : World) (γ : Nat → Option (Nat × Obj)) (b gl : Nat) (s : LS) (e : Ending) (w' : World) : Prop :=
  e = .returned (.tuple #[]) ∧ ∃ γ', LAt w0 γ' b gl s w' ∧ ∀ k, k ≠ b + 1 → γ' k = γ k

theorem forgetL {w0 w : World} {γ : Nat → Option (Nat × Obj)} {b gl : Nat} {s : LS} (h : LAt w0 γ b gl s w) {d t : Int} (h1 : Fits d) (h2 : Fits t) :
    Calls Try.prog 45 #[.pointer (some ⟨gl, 0, none⟩), .int .i64 d, .int .i64 t] w (lfPost w0 γ b gl { s with f := fnDel s.f d t }) := by
  obtain ⟨hs, lv, ev, gm, es, clock, vs, hl, hm, hf, h3, h4, h5⟩ := h
  have c2 : w.cell? ⟨gl, 2, none⟩ = some (.map (some gm)) := hs.cell hl (i := 2) rfl
  have hrun := fun ty => run_delete105 (hs.own _ _ _ hm).2 hf h1 h2 ty
  obtain ⟨es', hr, hf'⟩ := hrun 0
  have hfin : lfPost w0 γ b gl { s with f := fnDel s.f d t } (.returned (.tuple #[])) (setBlock w gm (.map es' clock)) := by
    refine ⟨rfl, _, ⟨hs.block hm (.map es' clock), lv, ev, gm, es', clock, vs, by rw [put_other _ _ _ (by omega)]; exact hl, put_same _ _ _ _, hf', h3.keep (put_other _ _ _ (by omega)), h4.keep (put_other _ _ _ (by omega)), fun i l hi => ?_⟩, fun k hk => put_other _ _ _ hk⟩
    exact (h5 i l hi).keep (put_other _ _ _ (by omega)) (put_other _ _ _ (by omega))
  unfold whoV at hr
  have HF := Lib.hid hfin
  clear hrun hf' hf hs hl hm h1 h2 hfin h3 h4 h5
  go_enter Try.func45, Try.ntmps45
  go_wp2_with fail
  go_end0
  exact HF.out
end Go.Proofs.Ytniiefcbiapieaa
