/- link.New of the links of a policy. -/
import Derived.Test.YtniiefcbiapieaaNewWalk
import Derived.Test.YtniiefcbiapieaaSlc2
import Derived.Test.YtniiefcbiapieaaStepCall
import Derived.Deep.CutBlock
import Derived.Deep.DeepCutAuto
import Derived.Deep.RegionWith
import Derived.Deep.RegionLaw
import Derived.Lib.Hide
namespace Go.Proofs.Ytniiefcbiapieaa
open Go.RowKit Go.ChangeMaps

def initEnd (l : LinkS) : EndS := if l.kind = 1 then .cell (CS.new (clampC l.size)) else .tap (clampN 8 l.size) [] 0

/-- How the round begins. -/
def NewAt (w : World) (b gl gb : Nat) (box : Obj) (ls : List LinkS) (i : Value) (wr : World) : Prop :=
  ∃ (k : Nat) (γ : Nat → Option (Nat × Obj)) (lv ev : Value) (gm : Nat) (vs : List Value), i = .int .i64 k ∧ k ≤ ls.length ∧ Own w wr γ ∧ γ (b + 4) = some (gb, box) ∧
    γ b = some (gl, .cells #[lv, ev, .map (some gm)] 108 (0, 0)) ∧ γ (b + 1) = some (gm, .map #[] 0) ∧ SliceAt γ (b + 2) 78 4 lv ls.length (linkVals ls) ∧ SliceAt γ (b + 3) 20 1 ev k vs ∧
    ∀ (j : Nat) l, j < k → ls[j]? = some l → EndAt γ (b + 10 + 2 * j) (vs.getD j undef) l.kind (initEnd l)

theorem EndAt.keep {γ γ' : Nat → Option (Nat × Obj)} {t : Nat} {v : Value} {kind : Int} {e : EndS} (h : EndAt γ t v kind e) (h1 : γ' t = γ t) (h2 : γ' (t + 1) = γ (t + 1)) : EndAt γ' t v kind e := by
  cases e with
  | cell c =>
    obtain ⟨a, g, b, c', d⟩ := h
    exact ⟨a, g, b, by rw [h1]; exact c', d⟩
  | tap s all next =>
    obtain ⟨a, g, gp, b, c', d, e⟩ := h
    exact ⟨a, g, gp, b, by rw [h1]; exact c', by rw [h2]; exact d, e⟩

theorem newAt_step {w w' : World} {b gl gb : Nat} {box : Obj} {ls : List LinkS} {k : Nat} {γ γ3 : Nat → Option (Nat × Obj)} {lv v v0 : Value} {gm : Nat} {vs : List Value} {u : Value} {l : LinkS}
    (hl : ls[k]? = some l) (hb4 : γ (b + 4) = some (gb, box)) (hb0 : γ b = some (gl, .cells #[lv, v0, .map (some gm)] 108 (0, 0))) (hb1 : γ (b + 1) = some (gm, .map #[] 0))
    (hsl : SliceAt γ (b + 2) 78 4 lv ls.length (linkVals ls)) (hvs : vs.length = k) (hea : ∀ (j : Nat) l, j < k → ls[j]? = some l → EndAt γ (b + 10 + 2 * j) (vs.getD j undef) l.kind (initEnd l))
    (ho3 : Own w w' γ3) (hk3 : ∀ t, t ≠ b + 3 → t ≠ b + 5 → t ≠ b + 10 + 2 * k → t ≠ b + 11 + 2 * k → γ3 t = γ t) (hse3 : SliceAt γ3 (b + 3) 20 1 v (k + 1) (vs ++ [u])) (hend : EndAt γ3 (b + 10 + 2 * k) u l.kind (initEnd l)) :
    NewAt w b gl gb box ls (.int .i64 (↑(k + 1) : Int)) (w'.setCell ⟨gl, 1, none⟩ v) := by
  have hlt : k < ls.length := (List.getElem?_eq_some_iff.1 hl).1
  have h0 := (hk3 b (by omega) (by omega) (by omega) (by omega)).trans hb0
  have hset := ho3.set h0 1 v
  refine ⟨k + 1, _, lv, v, gm, vs ++ [u], rfl, by omega, hset, ?_, put_same _ _ _ _, ?_, ?_, ?_, fun j l' hj hlj => ?_⟩
  · rw [put_other _ _ _ (by omega), hk3 _ (by omega) (by omega) (by omega) (by omega)]; exact hb4
  · rw [put_other _ _ _ (by omega), hk3 _ (by omega) (by omega) (by omega) (by omega)]; exact hb1
  · exact hsl.keep (by rw [put_other _ _ _ (by omega), hk3 _ (by omega) (by omega) (by omega) (by omega)])
  · exact hse3.keep (put_other _ _ _ (by omega))
  · by_cases e : j = k
    · subst e
      rw [hl] at hlj
      cases hlj
      have hg : (vs ++ [u]).getD j undef = u := by rw [List.getD_eq_getElem?_getD, List.getElem?_append_right (by omega)]; simp [hvs]
      rw [hg]
      exact hend.keep (put_other _ _ _ (by omega)) (put_other _ _ _ (by omega))
    · have hg : (vs ++ [u]).getD j undef = vs.getD j undef := by rw [List.getD_eq_getElem?_getD, List.getD_eq_getElem?_getD, List.getElem?_append_left (by omega)]
      rw [hg]
      exact (hea j l' (by omega) hlj).keep (by rw [put_other _ _ _ (by omega), hk3 _ (by omega) (by omega) (by omega) (by omega)]) (by rw [put_other _ _ _ (by omega), hk3 _ (by omega) (by omega) (by omega) (by omega)])

def newPost (w : World) (b : Nat) (ls : List LinkS) (e : Ending) (w' : World) : Prop :=
  ∃ gl γ en, e = .returned (.pointer (some ⟨gl, 0, none⟩)) ∧ LinksAt w γ b gl ls en (fun _ _ => none) w' ∧ ∀ (j : Nat) l, ls[j]? = some l → en j = initEnd l


theorem enters26 : enters Try.prog 26 = true := by kernel_rfl
theorem enters18 : enters Try.prog 18 = true := by kernel_rfl
theorem linkVals_get {ls : List LinkS} {k : Nat} {l : LinkS} (h : ls[k]? = some l) (j : Nat) (hj : j < 4) : (linkVals ls)[k * 4 + j]? = l.vals[j]? := by
  induction ls generalizing k with
  | nil => simp at h
  | cons a rest ih =>
    have e : linkVals (a :: rest) = a.vals ++ linkVals rest := by simp [linkVals]
    have hl : a.vals.length = 4 := rfl
    rw [e]
    cases k with
    | zero =>
      simp at h; subst h
      rw [List.getElem?_append_left (by rw [hl]; omega)]
      simp
    | succ k =>
      rw [List.getElem?_append_right (by rw [hl]; omega), hl, show (k + 1) * 4 + j - 4 = k * 4 + j by omega]
      exact ih (by simpa using h)
theorem Try.info20 : (Try.prog.info? 20).map (fun i => (i.zero, i.size, i.bytes)) = some (some .nilIface, 1, 16) := by kernel_rfl
set_option maxRecDepth 100000 in
set_option maxHeartbeats 4000000 in
theorem linkNew_any (b pb off cap0 : Nat) (dv sv : Value) (ls : List LinkS) (h10 : ls.length ≤ 10) (w : World) (hcap : ls.length ≤ cap0)
    (hread : ∀ (j : Nat) (u : Value), (linkVals ls)[j]? = some u → w.cell? ((⟨pb, off, none⟩ : Addr).add j) = some u) (hone : ∀ u ∈ linkVals ls, u.oneCell' = true) :
    Calls Try.prog 40 #[.agg #[dv, sv, .slice (some ⟨pb, off, none⟩) ls.length cap0]] w (newPost w b ls) := by
  go_enter Try.func40, Try.ntmps40
  go_wp2_with fail
  have hs := (Own.start w).new (b + 4) (.cells #[dv, sv, .slice (some ⟨pb, off, none⟩) ls.length cap0] 68)
  have hread1 : ∀ (j : Nat) (u : Value), (linkVals ls)[j]? = some u → (w.alloc (.cells #[dv, sv, .slice (some ⟨pb, off, none⟩) ls.length cap0] 68)).cell? ((⟨pb, off, none⟩ : Addr).add j) = some u := fun j u hj =>
    (((Below.refl w.heap.size w).alloc (Nat.le_refl _) _).cell (World.block_lt_of_cell? w _ (hread j u hj))).trans (hread j u hj)
  refine (clone_some hs (b + 2) (linkVals_length ls) (by omega) hread1 hone).mono ?_
  rintro e w1 ⟨v, γ1, rfl, ho, hsl, hk⟩
  obtain ⟨A1, cap1, rfl, hcap1⟩ := hsl.form
  have ho2 := (ho.new (b + 1) (.map #[] 0)).new b (.cells #[.slice A1 ls.length cap1, .slice none 0 0, .map (some w1.heap.size)] 108)
  have e2 : (w1.alloc (.map #[] 0)).heap.size = w1.heap.size + 1 := by simp
  rw [e2] at ho2
  have hbx : (put γ1 (b + 1) w1.heap.size (.map #[] 0)) (b + 4) = some (w.heap.size, .cells #[dv, sv, .slice (some ⟨pb, off, none⟩) ls.length cap0] 68 (0, 0)) := by rw [put_other _ _ _ (by omega), hk _ (by omega), put_same]
  have hbx2 := (put_other (put γ1 (b + 1) w1.heap.size (.map #[] 0)) (t := b) (k := b + 4) (w1.heap.size + 1) (.cells #[.slice A1 ls.length cap1, .slice none 0 0, .map (some w1.heap.size)] 108) (by omega)).trans hbx
  have hc2 := (ho.new (b + 1) (.map #[] 0)).cell hbx (i := 2) (v := .slice (some ⟨pb, off, none⟩) ls.length cap0) rfl
  have hc3 := ho2.cell hbx2 (i := 2) (v := .slice (some ⟨pb, off, none⟩) ls.length cap0) rfl
  have hmk := run_makeMap105 w1
  have hN : NewAt w b (w1.heap.size + 1) w.heap.size (.cells #[dv, sv, .slice (some ⟨pb, off, none⟩) ls.length cap0] 68) ls (.int .i64 0) ((w1.alloc (.map #[] 0)).alloc (.cells #[.slice A1 ls.length cap1, .slice none 0 0, .map (some w1.heap.size)] 108)) := by
    refine ⟨0, _, .slice A1 ls.length cap1, .slice none 0 0, w1.heap.size, [], rfl, by omega, ho2, hbx2, put_same _ _ _ _, by rw [put_other _ _ _ (by omega), put_same], ?_, SliceAt.nil _ _ _ _, fun j l hj => by omega⟩
    exact hsl.keep (by rw [put_other _ _ _ (by omega), put_other _ _ _ (by omega)])
  clear hs ho hsl hk ho2 hbx hbx2 hread1
  have hlen := linkVals_length ls
  go_wp2_with fail
  go_loopw [15] (fun i wr => NewAt w b (w1.heap.size + 1) w.heap.size (.cells #[dv, sv, .slice (some ⟨pb, off, none⟩) ls.length cap0] 68) ls i wr) (fun i _ => ls.length - (intOf i).toNat)
  case atStart => exact hN
  case round =>
    clear hN hmk hc2 hc3
    obtain ⟨k, γ, lv, ev, gm, vs, rfl, hk, ho, hb4, hb0, hb1, hsl, hse, hea⟩ := hrel
    by_cases hlt : k < ls.length
    · obtain ⟨l, hl⟩ : ∃ l, ls[k]? = some l := ⟨ls[k], List.getElem?_eq_getElem hlt⟩
      have q : ∀ (j : Nat) (u : Value), l.vals[j]? = some u → wr.cell? ⟨pb, off + (k * 4 + j), none⟩ = some u := by
        intro j u hj
        have hj4 : j < 4 := (List.getElem?_eq_some_iff.1 hj).1
        have h1 := hread (k * 4 + j) u ((linkVals_get hl j hj4).trans hj)
        rw [WideShapes.add_plain] at h1
        exact (ho.below.cell (World.block_lt_of_cell? w _ h1)).trans h1
      have q0 : wr.cell? ⟨pb, off + k * 4, none⟩ = some (.int .i64 l.kind) := q 0 _ rfl
      have q1 : wr.cell? ⟨pb, off + k * 4 + 1, none⟩ = some (.int .i64 l.from_) := q 1 _ rfl
      have q2 : wr.cell? ⟨pb, off + k * 4 + 2, none⟩ = some (.int .i64 l.to) := q 2 _ rfl
      have q3 : wr.cell? ⟨pb, off + k * 4 + 3, none⟩ = some (.int .i64 l.size) := q 3 _ rfl
      clear q hread
      obtain ⟨A2, cap2, rfl, hcap2⟩ := hse.form
      obtain ⟨kind, fr, tow, size⟩ := l
      dsimp only at q0 q1 q2 q3
      have ho1 := ho.new (b + 5) (.cells #[.int .i64 kind, .int .i64 fr, .int .i64 tow, .int .i64 size] 78)
      have k1 : ∀ t, t ≠ b + 5 → put γ (b + 5) wr.heap.size (.cells #[.int .i64 kind, .int .i64 fr, .int .i64 tow, .int .i64 size] 78) t = γ t := fun t ht => put_other _ _ _ ht
      have h5 : put γ (b + 5) wr.heap.size (.cells #[.int .i64 kind, .int .i64 fr, .int .i64 tow, .int .i64 size] 78) (b + 5) = some (wr.heap.size, (.cells #[.int .i64 kind, .int .i64 fr, .int .i64 tow, .int .i64 size] 78)) := put_same _ _ _ _
      generalize put γ (b + 5) wr.heap.size (.cells #[.int .i64 kind, .int .i64 fr, .int .i64 tow, .int .i64 size] 78) = γ2 at *
      have hb0' := (k1 b (by omega)).trans hb0
      have hse' := hse.keep (k1 (b + 3) (by omega))
      have c1 := ho1.cell hb0' (i := 1) (v := .slice A2 k cap2) rfl
      have c53 := ho1.cell h5 (i := 3) (v := .int .i64 size) rfl
      have HH0 : Hid (γ b = some (w1.heap.size + 1, .cells #[lv, .slice A2 k cap2, .map (some gm)] 108)) := hb0
      have HH : Hid (γ2 b = some (w1.heap.size + 1, .cells #[lv, .slice A2 k cap2, .map (some gm)] 108)) := hb0'
      by_cases hkind : kind = 1
      · subst hkind
        go_wp2_with fail
        clear q0 q1 q2 q3 hb0 hb0' h5
        generalize wr.alloc _ = W at *
        go_region_law ((first
          | (refine step_call rfl 26 _ _ rfl enters26 #[.int .i64 size] (by rfl) ((cellNew_any (by first | exact ho1.drew | exact ho1) (b + 10 + 2 * k) size).mono ?_); rintro e w2 ⟨g2, rfl, ho2⟩; refine ⟨_, rfl, ?_⟩
             have d1 := ho2.cell ((put_other _ _ _ (by omega)).trans HH.out) (i := 1) (v := .slice A2 k cap2) rfl
             have l1 := ho2.lt ((put_other _ _ _ (by omega)).trans HH.out)
             have d2 := fun o => ((Below.refl w2.heap.size w2).alloc (Nat.le_refl _) o).cell (p := ⟨w1.heap.size + 1, 1, none⟩) l1
             simp only [d1] at d2)
          | (refine step_append_O rfl (.tmp 26) (.tmp 31) 106 rfl 20 .nilIface 1 16 Try.underlying106 Try.info20 rfl (by decide) (ho2.below' ((Below.refl _ _).alloc (Nat.le_refl _) _)) (hse'.keep (put_other _ _ _ (by omega))) (by rfl) ⟨_, 0, none⟩ 1 1 [.iface 46 (.pointer (some ⟨g2, 0, none⟩))] (by rfl) rfl news_one (by simp [Value.oneCell']) (by omega) (by unfold maxLen; omega) (by omega) ?_
             intro g cap w3 γ3 ho3 hse3 hk3
             have hb3 := (hk3 b (by omega)).trans ((put_other _ _ _ (by omega)).trans HH.out)
             have f3 := ho3.free hb3 1
             have d3 := ho3.cell hb3 (i := 1) (v := .slice A2 k cap2) rfl)))
        all_goals
          have hfin : NewAt w b (w1.heap.size + 1) w.heap.size (.cells #[dv, sv, .slice (some ⟨pb, off, none⟩) ls.length cap0] 68) ls (.int .i64 (↑(k + 1) : Int)) (w3.setCell ⟨w1.heap.size + 1, 1, none⟩ (.slice (some ⟨g, 0, none⟩) (k + 1) cap)) := by
            refine newAt_step hl hb4 HH0.out hb1 hsl (by simpa using hse.1) hea ho3 (fun t t1 t2 t3 t4 => by rw [hk3 t t1, put_other _ _ _ t3, k1 t t2]) hse3 ?_
            unfold initEnd
            rw [if_pos rfl]
            exact ⟨rfl, g2, rfl, by rw [hk3 _ (by omega)]; exact put_same _ _ _ _, CS.Ok.new (clampC_bounds _)⟩
          have HF := Lib.hid hfin
          clear hfin hl hb4 hb1 hsl hse hea ho3 hk3 hse3 ho2 hb3 ho1 ho
          go_wp2_with fail
          go_roundw
          case rel => exact HF.out
          case measure => simp [intOf]; omega
      · have hkb : (kind == 1) = false := by simpa using hkind
        go_wp2_with fail
        clear q0 q1 q2 q3 hb0 hb0' h5
        generalize wr.alloc _ = W at *
        go_region_law ((first
          | (refine step_call rfl 18 _ _ rfl enters18 #[.int .i64 size] (by rfl) ((new_any ho1.drew (b + 11 + 2 * k) size).mono ?_); rintro e w2 ⟨g2, rfl, ho2⟩; refine ⟨_, rfl, ?_⟩
             have d1 := ho2.cell ((put_other _ _ _ (by omega)).trans HH.out) (i := 1) (v := .slice A2 k cap2) rfl
             have l1 := ho2.lt ((put_other _ _ _ (by omega)).trans HH.out)
             have d2 := fun o => ((Below.refl w2.heap.size w2).alloc (Nat.le_refl _) o).cell (p := ⟨w1.heap.size + 1, 1, none⟩) l1
             have d3 := fun o o2 => (((Below.refl w2.heap.size w2).alloc (Nat.le_refl _) o).alloc (by simp) o2).cell (p := ⟨w1.heap.size + 1, 1, none⟩) l1
             simp only [d1] at d2 d3)
          | (have ho2' := ho2.new (b + 10 + 2 * k) (.cells #[.pointer (some ⟨g2, 0, none⟩), .int .i64 0] 111)
             refine step_append_O rfl (.tmp 39) (.tmp 46) 106 rfl 20 .nilIface 1 16 Try.underlying106 Try.info20 rfl (by decide) (ho2'.below' ((Below.refl _ _).alloc (Nat.le_refl _) _)) (hse'.keep (by rw [put_other _ _ _ (by omega), put_other _ _ _ (by omega)])) (by rfl) ⟨w2.heap.size + 1, 0, none⟩ 1 1 [.iface 109 (.pointer (some ⟨w2.heap.size, 0, none⟩))] (by rfl) rfl (news_at (by simp)) (by simp [Value.oneCell']) (by omega) (by unfold maxLen; omega) (by omega) ?_
             intro g cap w3 γ3 ho3 hse3 hk3
             have hb3 := (hk3 b (by omega)).trans ((put_other _ _ _ (by omega)).trans ((put_other _ _ _ (by omega)).trans HH.out))
             have f3 := ho3.free hb3 1
             have d3 := ho3.cell hb3 (i := 1) (v := .slice A2 k cap2) rfl)))
        all_goals
          have hfin : NewAt w b (w1.heap.size + 1) w.heap.size (.cells #[dv, sv, .slice (some ⟨pb, off, none⟩) ls.length cap0] 68) ls (.int .i64 (↑(k + 1) : Int)) (w3.setCell ⟨w1.heap.size + 1, 1, none⟩ (.slice (some ⟨g, 0, none⟩) (k + 1) cap)) := by
            refine newAt_step hl hb4 HH0.out hb1 hsl (by simpa using hse.1) hea ho3 (fun t t1 t2 t3 t4 => by rw [hk3 t t1, put_other _ _ _ t3, put_other _ _ _ t4, k1 t t2]) hse3 ?_
            unfold initEnd
            rw [if_neg hkind]
            have hcb := clamp_bounds (hi := 8) (by omega) size
            exact ⟨hkind, w2.heap.size, g2, rfl, by rw [hk3 _ (by omega)]; exact put_same _ _ _ _, by rw [hk3 _ (by omega), put_other _ _ _ (by omega), show b + 10 + 2 * k + 1 = b + 11 + 2 * k by omega]; exact put_same _ _ _ _, hcb.1, hcb.2⟩
          have HF := Lib.hid hfin
          clear hfin hl hb4 hb1 hsl hse hea ho3 hk3 hse3 ho2 ho2' hb3 ho1 ho hkind d2 d3 d1 l1
          go_wp2_with fail
          go_roundw
          case rel => exact HF.out
          case measure => simp [intOf]; omega
    · obtain rfl : k = ls.length := by omega
      have hfin : newPost w b ls (.returned (.pointer (some ⟨w1.heap.size + 1, 0, none⟩))) wr := by
        refine ⟨w1.heap.size + 1, γ, fun j => match ls[j]? with | some l => initEnd l | none => .tap 1 [] 0, rfl, ⟨ho, lv, ev, gm, #[], 0, vs, hb0, hb1, MapFn.nil, hsl, hse, fun i l hi => ?_⟩, fun j l hj => by simp only [hj]⟩
        have := hea i l (List.getElem?_eq_some_iff.1 hi).1 hi
        simp only [hi]
        exact this
      have HF := Lib.hid hfin
      clear hfin hread hone ho hb4 hb0 hb1 hsl hse hea
      go_wp2_with fail
      go_ret
      exact HF.out
end Go.Proofs.Ytniiefcbiapieaa
