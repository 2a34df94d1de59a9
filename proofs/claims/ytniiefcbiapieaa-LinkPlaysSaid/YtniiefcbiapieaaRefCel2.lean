/- The reference's cell: what writes. -/
import Derived.Test.YtniiefcbiapieaaRefCel
namespace Go.Proofs.Ytniiefcbiapieaa
open Go.RowKit

def rcAfter (w0 : World) (γ : Nat → Option (Nat × Obj)) (tr ta g : Nat) (c : CS) (e0 : Int) (e : Ending) (w' : World) : Prop :=
  e = ans e0 ∧ ∃ γ', Own w0 w' γ' ∧ RefC γ' tr ta g c ∧ ∀ k, k ≠ tr → k ≠ ta → γ' k = γ k

section
variable {w0 w : World} {γ : Nat → Option (Nat × Obj)} {tr ta g : Nat} {c : CS}

theorem rcSame' (hs : Own w0 w γ) (hr : RefC γ tr ta g c) (e0 : Int) : rcAfter w0 γ tr ta g c e0 (.returned (.int .i64 e0)) w :=
  ⟨rfl, γ, hs, hr, fun _ _ _ => rfl⟩

theorem rcBegin_any (hs : Own w0 w γ) (hr : RefC γ tr ta g c) (hc : c.Ok) (hne : tr ≠ ta) (t' : Int) : Calls Try.prog 53 #[.pointer (some ⟨g, 0, none⟩), .int .i64 t'] w (rcAfter w0 γ tr ta g (c.begin t') (c.beginE t')) := by
  have hr0 := hr
  obtain ⟨b, e, sv, h1, h2, h3, h4, hg, hsl⟩ := hr
  have c0 : w.cell? ⟨g, 0, none⟩ = some (.int .i64 b) := hs.cell hg (i := 0) rfl
  have c1 : w.cell? ⟨g, 1, none⟩ = some (.int .i64 e) := hs.cell hg (i := 1) rfl
  have c3 : w.cell? ⟨g, 3, none⟩ = some (.int .i64 c.t) := hs.cell hg (i := 3) rfl
  have f0 := hs.free hg 0
  have f3 := hs.free hg 3
  have hq := hc.small
  by_cases a1 : t' < 1
  · have hd : decide (t' < 1) = true := by simpa using a1
    have he : c.beginE t' = 1 := if_pos a1
    have hb : c.begin t' = c := if_neg (by rw [he]; omega)
    rw [he, hb]
    have hfin := rcSame' hs hr0 1
    go_enter Try.func53, Try.ntmps53
    go_wp2
    go_ret
    exact hfin
  · have hd : decide (t' < 1) = false := by simpa using a1
    by_cases a2 : c.t = 0
    · have he : c.beginE t' = 0 := by unfold CS.beginE; rw [if_neg a1, if_neg (by omega), if_neg (by simpa using a2)]
      have hb : c.begin t' = { c with t := t', q := c.q + 1 } := if_pos he
      rw [he, hb]
      obtain rfl := h3 a2
      have hfin : ∀ n, rcAfter w0 γ tr ta g { c with t := t', q := c.q + 1 } 0 (.returned (.int .i64 0)) (((w.drewN n).setCell ⟨g, 0, none⟩ (.int .i64 (b + 1))).setCell ⟨g, 3, none⟩ (.int .i64 t')) := by
        intro n
        refine ⟨rfl, _, ((hs.drewN n).set hg 0 (.int .i64 (b + 1))).set (put_same _ _ _ _) 3 (.int .i64 t'), ⟨b + 1, b, sv, h1, by show b + 1 + b = ((c.q + 1 : Nat) : Int); omega, fun h => by simp only at h; omega, fun _ => rfl, put_same _ _ _ _, ?_⟩, fun k k1 k2 => by rw [put_other _ _ _ k1, put_other _ _ _ k1]⟩
        exact hsl.keep (by rw [put_other _ _ _ (Ne.symm hne), put_other _ _ _ (Ne.symm hne)])
      have hb9 : b < 1000 := by omega
      have dq : decide ((1048576 : Int) ≤ b + b) = false := by simp; omega
      clear h2 h3 h4 hq he hb a2 hr0 hsl hc
      go_enter Try.func53, Try.ntmps53
      go_wp2
      go_quiet (fail)
      go_wp2
      go_quiet (fail)
      go_wp2
      go_ret
      exact hfin _
    · have hde : decide (e < b) = true := by have := h4 a2; simp; omega
      by_cases a3 : c.t = t'
      · have he : c.beginE t' = 11 := by unfold CS.beginE; rw [if_neg a1, if_pos a3]
        have hb : c.begin t' = c := if_neg (by rw [he]; omega)
        rw [he, hb]
        have hfin : ∀ n, rcAfter w0 γ tr ta g c 11 (.returned (.int .i64 11)) (w.drewN n) := fun n => rcSame' (hs.drewN n) hr0 11
        rw [a3] at c3
        clear h2 h3 h4 hq he hb a2 a3 hr0 hsl hc
        go_enter Try.func53, Try.ntmps53
        go_wp2
        go_quiet (fail)
        go_wp2
        go_ret
        exact hfin _
      · have he : c.beginE t' = 12 := by unfold CS.beginE; rw [if_neg a1, if_neg a3, if_pos a2]
        have hb : c.begin t' = c := if_neg (by rw [he]; omega)
        rw [he, hb]
        have hfin : ∀ n, rcAfter w0 γ tr ta g c 12 (.returned (.int .i64 12)) (w.drewN n) := fun n => rcSame' (hs.drewN n) hr0 12
        have d3 : (c.t == t') = false := by simpa using a3
        generalize c.t = t at c3 d3
        clear h2 h3 h4 hq he hb a2 a3 hr0 hsl hc
        go_enter Try.func53, Try.ntmps53
        go_wp2
        go_quiet (fail)
        go_wp2
        go_ret
        exact hfin _

theorem rcEnd_any (hs : Own w0 w γ) (hr : RefC γ tr ta g c) (hc : c.Ok) (hne : tr ≠ ta) (t' : Int) : Calls Try.prog 54 #[.pointer (some ⟨g, 0, none⟩), .int .i64 t'] w (rcAfter w0 γ tr ta g (c.end_ t') (c.endE t')) := by
  by_cases a1 : t' < 1
  · have hd : decide (t' < 1) = true := by simpa using a1
    have he : c.endE t' = 1 := if_pos a1
    have hb : c.end_ t' = c := if_neg (by rw [he]; omega)
    rw [he, hb]
    have hfin := rcSame' hs hr 1
    clear hr
    go_enter Try.func54, Try.ntmps54
    go_wp2
    go_ret
    exact hfin
  · have hd : decide (t' < 1) = false := by simpa using a1
    have hw := rcWrites_any hs hr hc t'
    by_cases a3 : c.t = t'
    · have he : c.endE t' = 0 := by unfold CS.endE; rw [if_neg a1, if_neg (by simpa using a3)]
      have hb : c.end_ t' = { c with t := 0, q := c.q + 1 } := if_pos he
      rw [he, hb]
      rw [show decide (c.t ≠ 0 ∧ c.t = t') = true by simp [a3]; omega] at hw
      obtain ⟨b, e, sv, h1, h2, h3, h4, hg, hsl⟩ := hr
      have hq := hc.small
      have h5 : b = e + 1 := h4 (by omega)
      have hfin : ∀ w', Own w0 w' γ → rcAfter w0 γ tr ta g { c with t := 0, q := c.q + 1 } 0 (.returned (.int .i64 0)) ((w'.setCell ⟨g, 1, none⟩ (.int .i64 (e + 1))).setCell ⟨g, 3, none⟩ (.int .i64 0)) := by
        intro w' ho
        refine ⟨rfl, _, (ho.set hg 1 (.int .i64 (e + 1))).set (put_same _ _ _ _) 3 (.int .i64 0), ⟨b, e + 1, sv, by omega, by show b + (e + 1) = ((c.q + 1 : Nat) : Int); omega, fun _ => h5, fun h => absurd rfl h, put_same _ _ _ _, ?_⟩, fun k k1 k2 => by rw [put_other _ _ _ k1, put_other _ _ _ k1]⟩
        exact hsl.keep (by rw [put_other _ _ _ (Ne.symm hne), put_other _ _ _ (Ne.symm hne)])
      have he9 : e < 1000 := by omega
      clear h2 h3 h4 hq he hb a3 hc hsl
      go_enter Try.func54, Try.ntmps54
      go_wp2_with fail
      refine hw.mono ?_
      rintro e' w1 ⟨rfl, ho⟩
      have c1 : w1.cell? ⟨g, 1, none⟩ = some (.int .i64 e) := ho.cell hg (i := 1) rfl
      have c3 : w1.cell? ⟨g, 3, none⟩ = some (.int .i64 c.t) := ho.cell hg (i := 3) rfl
      have f1 := ho.free hg 1
      have f3 := ho.free hg 3
      have hf := hfin w1 ho
      clear hfin hw
      go_wp2
      go_ret
      exact hf
    · have he : c.endE t' = 11 := by unfold CS.endE; rw [if_neg a1, if_pos a3]
      have hb : c.end_ t' = c := if_neg (by rw [he]; omega)
      rw [he, hb]
      rw [show decide (c.t ≠ 0 ∧ c.t = t') = false by simp [a3]] at hw
      clear he hb a3
      go_enter Try.func54, Try.ntmps54
      go_wp2_with fail
      refine hw.mono ?_
      rintro e w1 ⟨rfl, ho⟩
      have hfin := rcSame' ho hr 11
      clear hr hs
      go_wp2
      go_ret
      exact hfin

/-- '[]int{}'. -/
theorem run_empty37 (w : World) : (Instr.buildSlice 37 0 #[]).run Try.prog w = .ok (.slice (some ⟨w.heap.size, 0, none⟩) 0 0) (w.alloc (.cells #[] 3)) := by
  obtain ⟨i0, hi, hz0, hz1, hz2⟩ := info_parts Try.info3
  simp [Instr.buildSlice, run_underlying Try.underlying37, sizeOf, typeInfo, hi, newRow, Instr.fill, Array.range_zero']
theorem wpList_empty37 (w : World) {ops : Array Oper} {rest : List Oper} {o : Oper} {a : Act} {Q : Exit → Act → World → Prop}
    (hg : o.guard = none) (hop : o.op = Op.buildSlice 37 0 #[])
    (hK : wpList Try.prog ops Q rest (a.put o.dst (.slice (some ⟨w.heap.size, 0, none⟩) 0 0)) (w.alloc (.cells #[] 3))) :
    wpList Try.prog ops Q (o :: rest) a w := by
  refine wpList_plain hg fun K hK' => ?_
  unfold Oper.wp
  simp [execOp, hop, run_empty37, Result.andThen]
  exact hK' _ _ hK

theorem SliceAt.set1 {t e n : Nat} {v : Value} {xs : List Value} (hsl : SliceAt γ t e 1 v n xs) (h : Own w0 w γ) {i : Nat} (hi : i < n) :
    ∃ g cap, v = .slice (some ⟨g, 0, none⟩) n cap ∧ w.cell? ⟨g, i, none⟩ = some (xs.getD i undef) ∧ w.frozen? ⟨g, i, none⟩ = false ∧
      ∀ u, ∃ γ', Own w0 (w.setCell ⟨g, i, none⟩ u) γ' ∧ SliceAt γ' t e 1 v n (xs.set i u) ∧ ∀ k, k ≠ t → γ' k = γ k := by
  obtain ⟨g0, cap0, hv0, hc0⟩ := hsl.at_ h hi
  rcases hsl.2 with ⟨_, h0⟩ | ⟨g, cap, cur, rfl, h2, h3, h4, h5, h6⟩
  · omega
  · cases hv0
    refine ⟨g0, cap0, rfl, hc0, h.free h2 i, fun u => ⟨_, h.set h2 i u, ⟨by rw [List.length_set]; exact hsl.1, .inr ⟨g0, cap0, _, rfl, put_same _ _ _ _, h3, h4, by rw [Array.size_setIfInBounds]; exact h5, ?_⟩⟩, fun k hk => put_other _ _ _ hk⟩⟩
    rw [← h6, Array.toList_setIfInBounds, List.take_set]

set_option maxHeartbeats 1000000 in
set_option maxRecDepth 20000 in
theorem rcPut_any (hs : Own w0 w γ) (hr : RefC γ tr ta g c) (hc : c.Ok) (hne : tr ≠ ta) (t' i v : Int) : Calls Try.prog 55 #[.pointer (some ⟨g, 0, none⟩), .int .i64 t', .int .i64 i, .int .i64 v] w (rcAfter w0 γ tr ta g (c.put t' i v) (c.putE t' i)) := by
  obtain ⟨b, e, sv, h1, h2, h3, h4, hg, hsl⟩ := id hr
  obtain ⟨A, cap, hsv, hcap⟩ := hsl.form
  have c2 : w.cell? ⟨g, 2, none⟩ = some sv := hs.cell hg (i := 2) rfl
  by_cases h : t' < 1 ∨ i < 0 ∨ (c.s : Int) ≤ i
  · have he : c.putE t' i = 1 := if_pos h
    have hb : c.put t' i v = c := if_neg (by rw [he]; omega)
    rw [he, hb]
    have hfin := rcSame' hs hr 1
    by_cases a1 : t' < 1
    · have hd : decide (t' < 1) = true := by simpa using a1
      clear hr he hb h
      go_enter Try.func55, Try.ntmps55
      go_wp2
      go_ret
      exact hfin
    · have hd : decide (t' < 1) = false := by simpa using a1
      by_cases a2 : i < 0
      · have d0 : decide (i < 0) = true := by simpa using a2
        clear hr he hb h
        go_enter Try.func55, Try.ntmps55
        go_wp2
        go_ret
        exact hfin
      · have d0 : decide (i < 0) = false := by simpa using a2
        have d1 : decide ((c.s : Int) ≤ i) = true := by simp; omega
        subst hsv
        clear hr he hb h
        go_enter Try.func55, Try.ntmps55
        go_wp2
        go_ret
        exact hfin
  · have hd : decide (t' < 1) = false := by simp; omega
    obtain ⟨k, rfl⟩ : ∃ k : Nat, i = k := ⟨i.toNat, by omega⟩
    have d0 : decide ((k : Int) < 0) = false := by simp
    have d1 : decide ((c.s : Int) ≤ k) = false := by simp; omega
    have d2 : decide (c.s ≤ k) = false := by simp; omega
    have hw := rcWrites_any hs hr hc t'
    by_cases a3 : c.t = t'
    · have he : c.putE t' k = 0 := by unfold CS.putE; rw [if_neg h, if_neg (by simpa using a3)]
      have hb : c.put t' k v = { c with ws := c.ws.set k v } := if_pos he
      rw [he, hb]
      rw [show decide (c.t ≠ 0 ∧ c.t = t') = true by simp [a3]; omega] at hw
      have hk : k < c.s := by omega
      obtain ⟨ga, cap', hA, _⟩ := hsl.at_ hs hk
      rw [hsv] at hA
      cases hA
      subst hsv
      have hlen : (c.ws.take c.s).length = c.s := by have := hc.hi; simp [hc.len]; omega
      have hcells : ∀ w', Own w0 w' γ → ∀ j u, (ints (c.ws.take c.s))[j]? = some u → w'.cell? ((⟨ga, 0, none⟩ : Addr).add j) = some u := by
        intro w' ho j u hj
        have hjl : j < c.s := by
          have := (List.getElem?_eq_some_iff.1 hj).1
          rw [ints_length, hlen] at this
          exact this
        obtain ⟨g2, cap2, hv2, hc2⟩ := hsl.at_ ho hjl
        cases hv2
        rw [List.getD_eq_getElem?_getD, hj] at hc2
        by_cases j0 : j = 0
        · subst j0; exact hc2
        · simpa [Addr.add, j0] using hc2
      obtain ⟨i0, hi, hz0, hz1, hz2⟩ := info_parts Try.info3
      have h4' := hc.hi
      have h64 : ∀ u ∈ ints (c.ws.take c.s), u.oneCell' = true := by
        intro u hu
        simp only [ints, List.mem_map] at hu
        obtain ⟨x, _, rfl⟩ := hu
        rfl
      obtain ⟨news, hnews⟩ : ∃ news, news = ints (c.ws.take c.s) := ⟨_, rfl⟩
      have hl1 : news.length = c.s * 1 := by rw [hnews, ints_length, hlen]; omega
      rw [← hnews] at hcells h64
      have hfin : ∀ w' γ1 sv', Own w0 w' γ1 → γ1 tr = some (g, .cells #[.int .i64 b, .int .i64 e, sv', .int .i64 c.t] 54 (0, 0)) → SliceAt γ1 ta 3 1 sv' c.s ((ints (c.ws.take c.s)).set k (.int .i64 v)) → (∀ k', k' ≠ tr → k' ≠ ta → γ1 k' = γ k') →
          rcAfter w0 γ tr ta g { c with ws := c.ws.set k v } 0 (.returned (.int .i64 0)) w' := by
        intro w' γ1 sv' k1 k2 k3 k4
        refine ⟨rfl, γ1, k1, ⟨b, e, sv', h1, h2, h3, h4, k2, ?_⟩, k4⟩
        have e1 : ints ((c.ws.set k v).take c.s) = (ints (c.ws.take c.s)).set k (.int .i64 v) := by
          rw [List.take_set]
          simp [ints, List.map_set]
        show SliceAt γ1 ta 3 1 sv' c.s (ints ((c.ws.set k v).take c.s))
        rw [e1]
        exact k3
      rw [← hnews] at hfin
      have h9 : c.s ≤ 4 := h4'
      clear he hb d1 h h1 h2 h3 h4 hnews hlen a3 hsl hr hc h4'
      go_enter Try.func55, Try.ntmps55
      go_wp2_with fail
      refine hw.mono ?_
      rintro e' w1 ⟨rfl, ho⟩
      have c2 : w1.cell? ⟨g, 2, none⟩ = some (.slice (some ⟨ga, 0, none⟩) c.s cap) := ho.cell hg (i := 2) rfl
      have ho1 := ho.new ta (.cells #[] 3)
      have hg1 : put γ ta w1.heap.size (.cells #[] 3) tr = some (g, _) := (put_other _ _ _ hne).trans hg
      have c2' : (w1.alloc (.cells #[] 3)).cell? ⟨g, 2, none⟩ = some (.slice (some ⟨ga, 0, none⟩) c.s cap) := ho1.cell hg1 (i := 2) rfl
      have hbase := ho.below.size
      have hs1 : SliceAt (put γ ta w1.heap.size (.cells #[] 3)) ta 3 1 (.slice (some ⟨w1.heap.size, 0, none⟩) 0 0) 0 [] := ⟨rfl, .inr ⟨_, 0, _, rfl, put_same _ _ _ _, Nat.le_refl _, by omega, rfl, rfl⟩⟩
      have hown := hs1.owns ho1
      have hcc := hcells _ (ho.below' ((Below.refl w1.heap.size w1).alloc (Nat.le_refl _) (Obj.cells #[] 3)))
      go_wp2_with (at_builtin; go_loud (refine wpList_append_own_at _ rfl (.tmp 29) (.tmp 33) 37 rfl w0.heap.size 3 i0 (.int .i64 0) 1 8 Try.underlying37 hi hz0 hz1 hz2 rfl (by decide) _ _ _ rfl hown ⟨ga, 0, none⟩ c.s cap news rfl hl1 hcc h64 ?k4 ?k5 ?k6 ?_))
      case k4 => unfold maxLen; omega
      case k5 => omega
      case k6 => simp; omega
      intro v' w2 hown1 hgrow hnn hat
      have hown2 : w2.ownsRow w0.heap.size 3 1 v' (0 + c.s) ([] ++ news) := by rw [Nat.zero_add, List.nil_append]; exact hown1
      obtain ⟨γ1, ho2, hs2, hk2⟩ := own_append ho1 hs1 rfl hown2 hgrow (by simpa using hat)
      rw [Nat.zero_add, List.nil_append] at hs2
      obtain ⟨g3, cap3, rfl, hc3, f3, hset⟩ := hs2.set1 ho2 hk
      obtain ⟨γ2, ho3, hs3, hk3⟩ := hset (.int .i64 v)
      have hg3 : γ2 tr = some (g, _) := (hk3 tr hne).trans ((hk2 tr hne).trans hg1)
      have c4 := ho3.free hg3 2
      have c5 := ho3.cell hg3 (i := 2) rfl
      have ho4 := ho3.set hg3 2 (.slice (some ⟨g3, 0, none⟩) c.s cap3)
      have hf := hfin _ _ _ ho4 (put_same _ _ _ _) (hs3.keep (put_other _ _ _ (Ne.symm hne))) (fun k' k1 k2 => by rw [put_other _ _ _ k1, hk3 _ k2, hk2 _ k2, put_other _ _ _ k2])
      have hk' : (k : Int) < c.s := by omega
      generalize news.getD k undef = u0 at hc3
      clear hfin hset ho4 hs3 ho3 ho2 hs2 hk2 hk3 hat hnn hgrow hown2 hown1 hcc hown hs1 ho1 hcells h64 hl1
      go_wp2
      go_ret
      exact hf
    · have he : c.putE t' k = 11 := by unfold CS.putE; rw [if_neg h, if_pos a3]
      have hb : c.put t' k v = c := if_neg (by rw [he]; omega)
      rw [he, hb]
      rw [show decide (c.t ≠ 0 ∧ c.t = t') = false by simp [a3]] at hw
      subst hsv
      clear he hb a3 h
      go_enter Try.func55, Try.ntmps55
      go_wp2_with fail
      refine hw.mono ?_
      rintro e' w1 ⟨rfl, ho⟩
      have hfin := rcSame' ho hr 11
      clear hr hs
      go_wp2
      go_ret
      exact hfin
end
end Go.Proofs.Ytniiefcbiapieaa
