/- The walk of LabelBelow. -/
import Derived.Test.YtfclpknkidebaaaBelow
import Derived.Test.YtfclpknkidebaaaLabAwake
import Derived.Deep.CutBlock
import Derived.Deep.DeepCutAuto
namespace Go.Proofs.Ytfclpknkidebaaa
open Go.RowKit

set_option maxRecDepth 100000 in
set_option maxHeartbeats 2000000 in
theorem ints_same {w0 w : World} {γ : Nat → Option (Nat × Obj)} (hs : Own w0 w γ) {t1 t2 : Nat} {v1 v2 : Value} {xs : List Int} (hn : xs.length ≤ 1000) (h1 : SliceAt γ t1 3 1 v1 xs.length (ints xs)) (h2 : SliceAt γ t2 3 1 v2 xs.length (ints xs)) :
    Calls Try.prog 17 #[v1, v2] w fun e w' => e = .returned (.bool true) ∧ Own w0 w' γ := by
  obtain ⟨A1, c1, rfl, _⟩ := h1.form
  obtain ⟨A2, c2, rfl, _⟩ := h2.form
  go_enter Try.func17, Try.ntmps17
  go_wp2
  go_loopw [5] (fun i wr => ∃ k : Nat, i = .int .i64 k ∧ k ≤ xs.length ∧ Own w0 wr γ) (fun i _ => xs.length - (intOf i).toNat)
  case atStart => exact ⟨0, rfl, by omega, hs⟩
  case round =>
    obtain ⟨k, rfl, hk, ho⟩ := hrel
    by_cases hlt : k < xs.length
    · obtain ⟨g1, d1, hA1, hc1⟩ := h1.at_ ho hlt
      obtain ⟨g2, d2, hA2, hc2⟩ := h2.at_ ho hlt
      cases hA1
      cases hA2
      rw [ints_get _ _ hlt] at hc1 hc2
      generalize xs.getD k 0 = u at hc1 hc2
      go_wp2
      go_quiet (fail)
      go_wp2
      go_roundw
      case rel => exact ⟨k + 1, by go_num, by omega, ho.drewN _⟩
      case measure => simp [intOf]; omega
    · go_wp2
      go_ret
      exact ⟨rfl, ho⟩

/-! ### The plain law: who is below a lower one is below a higher one; the places of the first are among those of the second, in order. -/

def pick (p : Nat → Bool) (n : Nat) : List Nat := (List.range n).filter p

theorem pick_pick {p q : Nat → Bool} {n : Nat} (h : ∀ i, i < n → p i = true → q i = true) : (pick q n).filter p = pick p n := by
  unfold pick
  rw [List.filter_filter]
  refine List.filter_congr fun i hi => ?_
  have hi' := List.mem_range.1 hi
  cases hp : p i with
  | false => simp
  | true => simp [h i hi' hp]

/-- Matched so far. -/
def met (p : Nat → Bool) (M : List Nat) (i : Nat) : Nat := ((M.take i).filter p).length

theorem met_zero (p : Nat → Bool) (M : List Nat) : met p M 0 = 0 := by simp [met]
theorem met_end (p : Nat → Bool) (M : List Nat) : met p M M.length = (M.filter p).length := by simp [met]
theorem met_le (p : Nat → Bool) (M : List Nat) (i : Nat) : met p M i ≤ (M.filter p).length :=
  (List.Sublist.filter p (List.take_sublist i M)).length_le
theorem met_succ {p : Nat → Bool} {M : List Nat} {i : Nat} (h : i < M.length) : met p M (i + 1) = met p M i + if p M[i] then 1 else 0 := by
  unfold met
  rw [List.take_succ_eq_append_getElem h, List.filter_append, List.length_append]
  congr 1
  cases hp : p M[i] <;> simp [hp]
theorem met_get {p : Nat → Bool} {M : List Nat} {i : Nat} (h : i < M.length) (hk : met p M i < (M.filter p).length) : (M[i] = (M.filter p)[met p M i]) ↔ p M[i] = true := by
  have hM : M = M.take i ++ M[i] :: M.drop (i + 1) := by
    rw [List.getElem_cons_drop, List.take_append_drop]
  have hL : (M.filter p)[met p M i]? = ((M[i] :: M.drop (i + 1)).filter p)[0]? := by
    have hF : M.filter p = (M.take i).filter p ++ (M[i] :: M.drop (i + 1)).filter p := by rw [← List.filter_append, ← hM]
    rw [hF, List.getElem?_append_right (by exact Nat.le_refl _)]
    congr 1
    exact Nat.sub_self _
  have hg : (M.filter p)[met p M i]? = some (M.filter p)[met p M i] := List.getElem?_eq_getElem hk
  cases hp : p M[i] with
  | true =>
    rw [List.filter_cons_of_pos hp] at hL
    rw [hg] at hL
    simp at hL
    simp [hL]
  | false =>
    have hmem : (M.filter p)[met p M i] ∈ M.filter p := List.getElem_mem hk
    have hpt := (List.mem_filter.1 hmem).2
    constructor
    · intro e
      rw [← e, hp] at hpt
      exact hpt
    · intro e; cases e

theorem places_eq (f : Nat → Int × Int) (l c : Int) (n : Nat) : places f l c n = (pick (fun i => leqB (f i).1 (f i).2 l c) n).map fun (i : Nat) => (i : Int) := rfl
/-- How the places of the first are met among those of the second. -/
structure Match (P Q : List Int) (g : Nat → Nat) : Prop where
  g0 : g 0 = 0
  gle : ∀ i, g i ≤ P.length
  gend : g Q.length = P.length
  step : ∀ i, i < Q.length → g i < P.length → (Q.getD i 0 = P.getD (g i) 0 ∧ g (i + 1) = g i + 1) ∨ (Q.getD i 0 ≠ P.getD (g i) 0 ∧ g (i + 1) = g i)

theorem match_of (f : Nat → Int × Int) (l c l' c' : Int) (n : Nat) (h : ∀ i, i < n → leqB (f i).1 (f i).2 l c = true → leqB (f i).1 (f i).2 l' c' = true) :
    ∃ g, Match (places f l c n) (places f l' c' n) g := by
  have hpp := pick_pick (p := fun i => leqB (f i).1 (f i).2 l c) (q := fun i => leqB (f i).1 (f i).2 l' c') h
  rw [places_eq, places_eq]
  generalize hM : pick (fun i => leqB (f i).1 (f i).2 l' c') n = M at *
  rw [← hpp]
  clear hM hpp h
  generalize (fun i => leqB (f i).1 (f i).2 l c) = p
  refine ⟨met p M, met_zero _ _, fun i => by rw [List.length_map]; exact met_le _ _ _, by rw [List.length_map, List.length_map]; exact met_end _ _, fun i hi hk => ?_⟩
  rw [List.length_map] at hi hk
  have e1 : (M.map fun (i : Nat) => (i : Int)).getD i 0 = (M[i] : Int) := by simp [List.getD_eq_getElem?_getD, hi]
  have e2 : ((M.filter p).map fun (i : Nat) => (i : Int)).getD (met p M i) 0 = ((M.filter p)[met p M i] : Int) := by simp [List.getD_eq_getElem?_getD, hk]
  rw [e1, e2, met_succ hi]
  have hg := met_get hi hk
  cases hp : p M[i] with
  | true => exact .inl ⟨by exact_mod_cast hg.2 hp, by simp⟩
  | false => exact .inr ⟨fun e => (by rw [hg.1 (by exact_mod_cast e)] at hp; cases hp), by simp⟩

abbrev labO (l c : Int) : Obj := .cells #[.int .i64 l, .int .i64 c] 23 (0, 0)

/-- The two labels' boxes. -/
def Boxes (w : World) (la ca lb cb : Int) (γ : Nat → Option (Nat × Obj)) : Prop := γ 10 = some (w.heap.size, labO la ca) ∧ γ 11 = some (w.heap.size + 1, labO lb cb)

def WantAt (w : World) (la ca lb cb : Int) (n : Nat) (f : Nat → Int × Int) (sv i : Value) (wr : World) : Prop :=
  ∃ (k : Nat) (γ : Nat → Option (Nat × Obj)), i = .int .i64 k ∧ k ≤ n ∧ Own w wr γ ∧ Boxes w la ca lb cb γ ∧ SliceAt γ 1 3 1 sv (places f la ca k).length (ints (places f la ca k))

theorem refLeq_own {w : World} {γ : Nat → Option (Nat × Obj)} (x : Cls (fun w' => Own w w' γ)) (l1 c1 l2 c2 : Int) :
    Calls Try.prog 13 #[lab l1 c1, lab l2 c2] x.world fun e w'' => e = .returned (.bool (leqB l1 c1 l2 c2)) ∧ ∃ y : Cls (fun w' => Own w w' γ), w'' = y.world :=
  cls_call ((refLeq_any l1 c1 l2 c2 x.world).mono fun e w' ⟨he, hb⟩ => ⟨he, x.ok.below' hb⟩)


set_option maxRecDepth 100000 in
set_option maxHeartbeats 4000000 in
theorem labelBelow_short (A : Option Addr) (len cap : Nat) (la ca lb cb : Int) (w : World) (f : Nat → Int × Int) (hlen : len ≤ 100) (hin : LabsIn w A len f) :
    Calls Try.prog 6 #[.slice A len cap, lab la ca, lab lb cb] w fun e w' => e = .returned (.bool true) ∧ Below w.heap.size w w' := by
  obtain ⟨i0, hi, hz0, hz1, hz2⟩ := info_parts Try.info3
  obtain ⟨G, hG⟩ := match_of f la ca (max la lb) (bits .or .i64 ca cb) len (fun i _ h => (leqB_iff _ _ _ _).2 (by
    have := (leqB_iff _ _ _ _).1 h
    exact ⟨by omega, this.2.trans (fun j hj => by rw [U_or, Nat.testBit_or, hj, Bool.true_or])⟩))
  have hs0 := ((Own.start w).new 10 (labO la ca)).new 11 (labO lb cb)
  simp only [World.size_alloc] at hs0
  have hs1 := hs0.new 1 (.cells #[] 3 (0, 0))
  simp only [World.size_alloc] at hs1
  have hd : decide (100 < (len : Int)) = false := by simp; omega
  go_enter Try.func6, Try.ntmps6
  go_wp2_with fail
  go_loopw [7, 8] (fun sv i wr => WantAt w la ca lb cb len f sv i wr) (fun _ i _ => len - (intOf i).toNat)
  case atStart => exact ⟨0, _, rfl, by omega, hs1, ⟨by simp [put], by simp [put]⟩, ⟨by simp [ints, places], .inr ⟨_, 0, #[], rfl, put_same _ _ _ _, by simp [places], by simp, by simp, by simp [ints, places]⟩⟩⟩
  case round =>
    obtain ⟨k, γ, rfl, hk, ho, hbox, hsl⟩ := hrel
    by_cases hlt : k < len
    · rcases hin with h0 | ⟨b, off, hA, hcell⟩
      · omega
      subst hA
      obtain ⟨hc0, hc1⟩ := hcell k hlt
      obtain ⟨x, hx⟩ : ∃ x, x = (f k).1 := ⟨_, rfl⟩
      obtain ⟨y, hy⟩ : ∃ x, x = (f k).2 := ⟨_, rfl⟩
      rw [← hx] at hc0
      rw [← hy] at hc1
      have HX : Hid (x = (f k).1 ∧ y = (f k).2) := ⟨hx, hy⟩
      clear hx hy hcell
      have d0 : ∀ x_ : Cls (fun w' => Own w w' γ), x_.world.cell? ⟨b, off + k * 2, none⟩ = some (.int .i64 x) := fun x_ => (x_.ok.below.cell (World.block_lt_of_cell? w _ hc0)).trans hc0
      have d1 : ∀ x_ : Cls (fun w' => Own w w' γ), x_.world.cell? ⟨b, off + k * 2 + 1, none⟩ = some (.int .i64 y) := fun x_ => (x_.ok.below.cell (World.block_lt_of_cell? w _ hc1)).trans hc1
      have e0 : ∀ x_ : Cls (fun w' => Own w w' γ), x_.world.cell? ⟨w.heap.size, 0, none⟩ = some (.int .i64 la) := fun x_ => x_.ok.cell hbox.1 (i := 0) rfl
      have e1 : ∀ x_ : Cls (fun w' => Own w w' γ), x_.world.cell? ⟨w.heap.size, 1, none⟩ = some (.int .i64 ca) := fun x_ => x_.ok.cell hbox.1 (i := 1) rfl
      have hne0 : Nonempty (Cls (fun w' => Own w w' γ)) := ⟨⟨_, ho⟩⟩
      obtain ⟨B, cb', rfl, hcb⟩ := hsl.form
      have hpl := places_le f la ca k
      have hbase := ho.below.size
      go_upto_region 7 with (fail)
      refine wp_region_class (fun w' => Own w w' γ) (by kernel_rfl) (by kernel_rfl) ho.drew ?_
      repeat (go_big_quiet_step (exact refLeq_own _ _ _ _ _))
      refine wpQuiet_nil ?_
      rintro w1 ⟨⟨_, ho1⟩, rfl⟩
      clear d0 d1 e0 e1 hne0
      cases hle : leqB x y la ca with
      | false =>
        have hno := places_no (f := f) (l := la) (c := ca) (k := k) (by rw [← HX.out.1, ← HX.out.2]; exact hle)
        have HNO : Hid (places f la ca (k + 1) = places f la ca k) := hno
        clear hno
        go_wp2_with fail
        go_roundw
        case rel => exact ⟨k + 1, γ, by go_num, by omega, ho1, hbox, by rw [HNO.out]; exact hsl⟩
        case measure => simp [intOf]; omega
      | true =>
        have hyes := places_yes (f := f) (l := la) (c := ca) (k := k) (by rw [← HX.out.1, ← HX.out.2]; exact hle)
        have HY : Hid (places f la ca (k + 1) = places f la ca k ++ [(k : Int)]) := hyes
        clear hyes
        generalize hP : places f la ca k = ps at *
        have HP : Hid (places f la ca k = ps) := hP
        clear hP
        have hown := hsl.owns ho1
        have hbase := ho1.below.size
        go_wp2_with (at_builtin; refine wpList_append_own_at _ rfl (.tmp 31) (.tmp 33) 30 rfl w.heap.size 3 i0 (.int .i64 0) 1 8 Try.underlying30 hi hz0 hz1 hz2 rfl (by decide) _ _ _ rfl (hown.alloc _) ⟨w1.heap.size, 0, none⟩ 1 1 [.int .i64 k] rfl rfl ?c1 ?c2 ?c3 ?c4 ?c5 ?_)
        case c1 => exact cell_one_new _ _ _
        case c2 => intro u hu; simp at hu; subst hu; rfl
        case c3 => unfold maxLen; omega
        case c4 => omega
        case c5 => simp; omega
        intro v' w3 hown1 hgrow hnn hat
        have hs' := ho1.below' ((Below.refl w1.heap.size w1).alloc (Nat.le_refl _) (Obj.cells #[Value.int .i64 k] 3))
        obtain ⟨γ3, ho3, hs3, hk3⟩ := own_append hs' hsl rfl hown1 hgrow (by simpa using hat)
        have hbox3 : Boxes w la ca lb cb γ3 := ⟨(hk3 10 (by omega)).trans hbox.1, (hk3 11 (by omega)).trans hbox.2⟩
        rw [ints_snoc] at hs3
        have hl : (ps ++ [(k : Int)]).length = ps.length + 1 := by simp
        rw [← hl] at hs3
        have HF : SliceAt γ3 1 3 1 v' (places f la ca (k + 1)).length (ints (places f la ca (k + 1))) := by rw [HY.out]; exact hs3
        clear hs3 hl hown1 hgrow hnn hat hs' hown HY HP
        go_wp2_with fail
        go_roundw
        case rel => exact ⟨k + 1, γ3, by go_num, by omega, ho3, hbox3, HF⟩
        case measure => simp [intOf]; omega
    · obtain hkN : k = len := by omega
      subst hkN
      have e0 : wr.cell? ⟨w.heap.size, 0, none⟩ = some (.int .i64 la) := ho.cell hbox.1 (i := 0) rfl
      have e1 : wr.cell? ⟨w.heap.size, 1, none⟩ = some (.int .i64 ca) := ho.cell hbox.1 (i := 1) rfl
      clear hs0 hs1
      go_wp2_with fail
      refine (below_any ho 2 (by omega) _ k cap f hin (by omega) la ca).mono ?_
      rintro e w2 ⟨sl, γ2, rfl, ho2, hsl2, hk2⟩
      have hbox2 : Boxes w la ca lb cb γ2 := ⟨(hk2 10 (by omega) (by omega) (by omega)).trans hbox.1, (hk2 11 (by omega) (by omega) (by omega)).trans hbox.2⟩
      have hw2 := hsl.keep (hk2 1 (by omega) (by omega) (by omega))
      have e0 : w2.cell? ⟨w.heap.size, 0, none⟩ = some (.int .i64 la) := ho2.cell hbox2.1 (i := 0) rfl
      have e1 : w2.cell? ⟨w.heap.size, 1, none⟩ = some (.int .i64 ca) := ho2.cell hbox2.1 (i := 1) rfl
      have e2 : w2.cell? ⟨w.heap.size + 1, 0, none⟩ = some (.int .i64 lb) := ho2.cell hbox2.2 (i := 0) rfl
      have e3 : w2.cell? ⟨w.heap.size + 1, 1, none⟩ = some (.int .i64 cb) := ho2.cell hbox2.2 (i := 1) rfl
      go_wp2_with fail
      refine (join_any la ca lb cb _).mono ?_
      rintro e w3 ⟨rfl, hb3⟩
      have ho3 := ho2.below' hb3
      clear e0 e1 e2 e3
      go_wp2_with fail
      refine (below_any ho3 3 (by omega) _ k cap f hin (by omega) (max la lb) (bits .or .i64 ca cb)).mono ?_
      rintro e w4 ⟨sm, γ4, rfl, ho4, hsl4, hk4⟩
      have hw4 := hw2.keep (hk4 1 (by omega) (by omega) (by omega))
      have hl4 := hsl2.keep (hk4 2 (by omega) (by omega) (by omega))
      have hPle := places_le f la ca k
      have hQle := places_le f (max la lb) (bits .or .i64 ca cb) k
      generalize places f la ca k = P at *
      generalize places f (max la lb) (bits .or .i64 ca cb) k = Q at *
      obtain ⟨Bl, cl, rfl, _⟩ := hl4.form
      obtain ⟨Bm, cm, rfl, _⟩ := hsl4.form
      obtain ⟨Bw, cw, rfl, _⟩ := hw4.form
      clear hsl hsl2 hw2 hbox hbox2 hk2 hk4 ho ho2 ho3 hb3
      go_wp2_with fail
      go_loopw [11, 12] (fun kv iv wr => ∃ i : Nat, iv = .int .i64 i ∧ kv = .int .i64 (G i) ∧ i ≤ Q.length ∧ Own w wr γ4) (fun _ i _ => Q.length - (intOf i).toNat)
      case atStart => exact ⟨0, rfl, by rw [hG.g0]; rfl, by omega, ho4⟩
      case round =>
        obtain ⟨i, rfl, rfl, hi_, ho5⟩ := hrel
        have hgle := hG.gle i
        obtain ⟨kk, hkk⟩ : ∃ kk, kk = G i := ⟨_, rfl⟩
        rw [← hkk] at hgle ⊢
        have HK : Hid (kk = G i) := hkk
        clear hkk
        by_cases hiQ : i < Q.length
        · by_cases hkP : kk < P.length
          · obtain ⟨ga, da, hAa, hca⟩ := hl4.at_ ho5 hkP
            obtain ⟨gb, db, hAb, hcb⟩ := hsl4.at_ ho5 hiQ
            cases hAa
            cases hAb
            rw [ints_get _ _ hkP] at hca
            rw [ints_get _ _ hiQ] at hcb
            have hst := hG.step i hiQ (by rw [← HK.out]; exact hkP)
            rw [← HK.out] at hst
            obtain ⟨u, hu⟩ : ∃ u, u = Q.getD i 0 := ⟨_, rfl⟩
            obtain ⟨v, hv⟩ : ∃ u, u = P.getD kk 0 := ⟨_, rfl⟩
            rw [← hu] at hcb hst
            rw [← hv] at hca hst
            clear hu hv
            rcases hst with ⟨heq, hnext⟩ | ⟨hne, hnext⟩
            · subst heq
              have HN : Hid (G (i + 1) = kk + 1) := hnext
              clear hnext
              go_wp2_with fail
              go_quiet (fail)
              go_wp2_with fail
              go_roundw
              case rel => exact ⟨i + 1, by go_num, by rw [HN.out]; go_num, by omega, ho5.drewN _⟩
              case measure => simp [intOf]; omega
            · have HN : Hid (G (i + 1) = kk) := hnext
              have hnb : (u == v) = false := by simpa using hne
              clear hnext
              go_wp2_with fail
              go_quiet (fail)
              go_wp2_with fail
              go_roundw
              case rel => exact ⟨i + 1, by go_num, by rw [HN.out], by omega, ho5.drewN _⟩
              case measure => simp [intOf]; omega
          · obtain hkk : kk = P.length := by omega
            subst hkk
            go_wp2_with fail
            refine (awake_any _).mono ?_
            rintro e w6 ⟨rfl, hb6⟩
            have ho6 := ho5.below' hb6
            go_wp2_with fail
            refine (ints_same ho6 (by omega) hl4 hw4).mono ?_
            rintro e w7 ⟨rfl, ho7⟩
            go_wp2_with fail
            go_ret
            exact ⟨rfl, ho7.below⟩
        · obtain hiq : i = Q.length := by omega
          have hkk : kk = P.length := by rw [HK.out, hiq]; exact hG.gend
          subst hiq
          subst hkk
          go_wp2_with fail
          refine (awake_any _).mono ?_
          rintro e w6 ⟨rfl, hb6⟩
          have ho6 := ho5.below' hb6
          go_wp2_with fail
          refine (ints_same ho6 (by omega) hl4 hw4).mono ?_
          rintro e w7 ⟨rfl, ho7⟩
          go_wp2_with fail
          go_ret
          exact ⟨rfl, ho7.below⟩

set_option maxRecDepth 100000 in
set_option maxHeartbeats 4000000 in
theorem labelBelow_long (A : Option Addr) (len cap : Nat) (la ca lb cb : Int) (w : World) (f : Nat → Int × Int) (hlen : 100 < len) (hcap : len ≤ cap) (b off : Nat) (hA0 : A = some ⟨b, off, none⟩) (hcap2 : cap ≤ 9223372036854775807) (hin : LabsIn w A 100 f) :
    Calls Try.prog 6 #[.slice A len cap, lab la ca, lab lb cb] w fun e w' => e = .returned (.bool true) ∧ Below w.heap.size w w' := by
  obtain ⟨i0, hi, hz0, hz1, hz2⟩ := info_parts Try.info3
  obtain ⟨G, hG⟩ := match_of f la ca (max la lb) (bits .or .i64 ca cb) 100 (fun i _ h => (leqB_iff _ _ _ _).2 (by
    have := (leqB_iff _ _ _ _).1 h
    exact ⟨by omega, this.2.trans (fun j hj => by rw [U_or, Nat.testBit_or, hj, Bool.true_or])⟩))
  have hs0 := ((Own.start w).new 10 (labO la ca)).new 11 (labO lb cb)
  simp only [World.size_alloc] at hs0
  have hs1 := hs0.new 1 (.cells #[] 3 (0, 0))
  simp only [World.size_alloc] at hs1
  have hd : decide (100 < (len : Int)) = true := by simp; omega
  subst hA0
  go_enter Try.func6, Try.ntmps6
  go_wp2_with fail
  go_loopw [7, 8] (fun sv i wr => WantAt w la ca lb cb 100 f sv i wr) (fun _ i _ => 100 - (intOf i).toNat)
  case atStart => exact ⟨0, _, rfl, by omega, hs1, ⟨by simp [put], by simp [put]⟩, ⟨by simp [ints, places], .inr ⟨_, 0, #[], rfl, put_same _ _ _ _, by simp [places], by simp, by simp, by simp [ints, places]⟩⟩⟩
  case round =>
    obtain ⟨k, γ, rfl, hk, ho, hbox, hsl⟩ := hrel
    by_cases hlt : k < 100
    · rcases hin with h0 | ⟨b9, off9, hA, hcell⟩
      · omega
      cases hA
      obtain ⟨hc0, hc1⟩ := hcell k hlt
      obtain ⟨x, hx⟩ : ∃ x, x = (f k).1 := ⟨_, rfl⟩
      obtain ⟨y, hy⟩ : ∃ x, x = (f k).2 := ⟨_, rfl⟩
      rw [← hx] at hc0
      rw [← hy] at hc1
      have HX : Hid (x = (f k).1 ∧ y = (f k).2) := ⟨hx, hy⟩
      clear hx hy hcell
      have d0 : ∀ x_ : Cls (fun w' => Own w w' γ), x_.world.cell? ⟨b, off + k * 2, none⟩ = some (.int .i64 x) := fun x_ => (x_.ok.below.cell (World.block_lt_of_cell? w _ hc0)).trans hc0
      have d1 : ∀ x_ : Cls (fun w' => Own w w' γ), x_.world.cell? ⟨b, off + k * 2 + 1, none⟩ = some (.int .i64 y) := fun x_ => (x_.ok.below.cell (World.block_lt_of_cell? w _ hc1)).trans hc1
      have e0 : ∀ x_ : Cls (fun w' => Own w w' γ), x_.world.cell? ⟨w.heap.size, 0, none⟩ = some (.int .i64 la) := fun x_ => x_.ok.cell hbox.1 (i := 0) rfl
      have e1 : ∀ x_ : Cls (fun w' => Own w w' γ), x_.world.cell? ⟨w.heap.size, 1, none⟩ = some (.int .i64 ca) := fun x_ => x_.ok.cell hbox.1 (i := 1) rfl
      have hne0 : Nonempty (Cls (fun w' => Own w w' γ)) := ⟨⟨_, ho⟩⟩
      obtain ⟨B, cb', rfl, hcb⟩ := hsl.form
      have hpl := places_le f la ca k
      have hbase := ho.below.size
      go_upto_region 7 with (fail)
      refine wp_region_class (fun w' => Own w w' γ) (by kernel_rfl) (by kernel_rfl) ho.drew ?_
      repeat (go_big_quiet_step (exact refLeq_own _ _ _ _ _))
      refine wpQuiet_nil ?_
      rintro w1 ⟨⟨_, ho1⟩, rfl⟩
      clear d0 d1 e0 e1 hne0
      cases hle : leqB x y la ca with
      | false =>
        have hno := places_no (f := f) (l := la) (c := ca) (k := k) (by rw [← HX.out.1, ← HX.out.2]; exact hle)
        have HNO : Hid (places f la ca (k + 1) = places f la ca k) := hno
        clear hno
        go_wp2_with fail
        go_roundw
        case rel => exact ⟨k + 1, γ, by go_num, by omega, ho1, hbox, by rw [HNO.out]; exact hsl⟩
        case measure => simp [intOf]; omega
      | true =>
        have hyes := places_yes (f := f) (l := la) (c := ca) (k := k) (by rw [← HX.out.1, ← HX.out.2]; exact hle)
        have HY : Hid (places f la ca (k + 1) = places f la ca k ++ [(k : Int)]) := hyes
        clear hyes
        generalize hP : places f la ca k = ps at *
        have HP : Hid (places f la ca k = ps) := hP
        clear hP
        have hown := hsl.owns ho1
        have hbase := ho1.below.size
        go_wp2_with (at_builtin; refine wpList_append_own_at _ rfl (.tmp 31) (.tmp 33) 30 rfl w.heap.size 3 i0 (.int .i64 0) 1 8 Try.underlying30 hi hz0 hz1 hz2 rfl (by decide) _ _ _ rfl (hown.alloc _) ⟨w1.heap.size, 0, none⟩ 1 1 [.int .i64 k] rfl rfl ?c1 ?c2 ?c3 ?c4 ?c5 ?_)
        case c1 => exact cell_one_new _ _ _
        case c2 => intro u hu; simp at hu; subst hu; rfl
        case c3 => unfold maxLen; omega
        case c4 => omega
        case c5 => simp; omega
        intro v' w3 hown1 hgrow hnn hat
        have hs' := ho1.below' ((Below.refl w1.heap.size w1).alloc (Nat.le_refl _) (Obj.cells #[Value.int .i64 k] 3))
        obtain ⟨γ3, ho3, hs3, hk3⟩ := own_append hs' hsl rfl hown1 hgrow (by simpa using hat)
        have hbox3 : Boxes w la ca lb cb γ3 := ⟨(hk3 10 (by omega)).trans hbox.1, (hk3 11 (by omega)).trans hbox.2⟩
        rw [ints_snoc] at hs3
        have hl : (ps ++ [(k : Int)]).length = ps.length + 1 := by simp
        rw [← hl] at hs3
        have HF : SliceAt γ3 1 3 1 v' (places f la ca (k + 1)).length (ints (places f la ca (k + 1))) := by rw [HY.out]; exact hs3
        clear hs3 hl hown1 hgrow hnn hat hs' hown HY HP
        go_wp2_with fail
        go_roundw
        case rel => exact ⟨k + 1, γ3, by go_num, by omega, ho3, hbox3, HF⟩
        case measure => simp [intOf]; omega
    · obtain hkN : k = 100 := by omega
      subst hkN
      have e0 : wr.cell? ⟨w.heap.size, 0, none⟩ = some (.int .i64 la) := ho.cell hbox.1 (i := 0) rfl
      have e1 : wr.cell? ⟨w.heap.size, 1, none⟩ = some (.int .i64 ca) := ho.cell hbox.1 (i := 1) rfl
      clear hs0 hs1
      go_wp2_with fail
      refine (below_any ho 2 (by omega) _ 100 cap f hin (by omega) la ca).mono ?_
      rintro e w2 ⟨sl, γ2, rfl, ho2, hsl2, hk2⟩
      have hbox2 : Boxes w la ca lb cb γ2 := ⟨(hk2 10 (by omega) (by omega) (by omega)).trans hbox.1, (hk2 11 (by omega) (by omega) (by omega)).trans hbox.2⟩
      have hw2 := hsl.keep (hk2 1 (by omega) (by omega) (by omega))
      have e0 : w2.cell? ⟨w.heap.size, 0, none⟩ = some (.int .i64 la) := ho2.cell hbox2.1 (i := 0) rfl
      have e1 : w2.cell? ⟨w.heap.size, 1, none⟩ = some (.int .i64 ca) := ho2.cell hbox2.1 (i := 1) rfl
      have e2 : w2.cell? ⟨w.heap.size + 1, 0, none⟩ = some (.int .i64 lb) := ho2.cell hbox2.2 (i := 0) rfl
      have e3 : w2.cell? ⟨w.heap.size + 1, 1, none⟩ = some (.int .i64 cb) := ho2.cell hbox2.2 (i := 1) rfl
      go_wp2_with fail
      refine (join_any la ca lb cb _).mono ?_
      rintro e w3 ⟨rfl, hb3⟩
      have ho3 := ho2.below' hb3
      clear e0 e1 e2 e3
      go_wp2_with fail
      refine (below_any ho3 3 (by omega) _ 100 cap f hin (by omega) (max la lb) (bits .or .i64 ca cb)).mono ?_
      rintro e w4 ⟨sm, γ4, rfl, ho4, hsl4, hk4⟩
      have hw4 := hw2.keep (hk4 1 (by omega) (by omega) (by omega))
      have hl4 := hsl2.keep (hk4 2 (by omega) (by omega) (by omega))
      have hPle := places_le f la ca 100
      have hQle := places_le f (max la lb) (bits .or .i64 ca cb) 100
      generalize places f la ca 100 = P at *
      generalize places f (max la lb) (bits .or .i64 ca cb) 100 = Q at *
      obtain ⟨Bl, cl, rfl, _⟩ := hl4.form
      obtain ⟨Bm, cm, rfl, _⟩ := hsl4.form
      obtain ⟨Bw, cw, rfl, _⟩ := hw4.form
      clear hsl hsl2 hw2 hbox hbox2 hk2 hk4 ho ho2 ho3 hb3
      go_wp2_with fail
      go_loopw [11, 12] (fun kv iv wr => ∃ i : Nat, iv = .int .i64 i ∧ kv = .int .i64 (G i) ∧ i ≤ Q.length ∧ Own w wr γ4) (fun _ i _ => Q.length - (intOf i).toNat)
      case atStart => exact ⟨0, rfl, by rw [hG.g0]; rfl, by omega, ho4⟩
      case round =>
        obtain ⟨i, rfl, rfl, hi_, ho5⟩ := hrel
        have hgle := hG.gle i
        obtain ⟨kk, hkk⟩ : ∃ kk, kk = G i := ⟨_, rfl⟩
        rw [← hkk] at hgle ⊢
        have HK : Hid (kk = G i) := hkk
        clear hkk
        by_cases hiQ : i < Q.length
        · by_cases hkP : kk < P.length
          · obtain ⟨ga, da, hAa, hca⟩ := hl4.at_ ho5 hkP
            obtain ⟨gb, db, hAb, hcb⟩ := hsl4.at_ ho5 hiQ
            cases hAa
            cases hAb
            rw [ints_get _ _ hkP] at hca
            rw [ints_get _ _ hiQ] at hcb
            have hst := hG.step i hiQ (by rw [← HK.out]; exact hkP)
            rw [← HK.out] at hst
            obtain ⟨u, hu⟩ : ∃ u, u = Q.getD i 0 := ⟨_, rfl⟩
            obtain ⟨v, hv⟩ : ∃ u, u = P.getD kk 0 := ⟨_, rfl⟩
            rw [← hu] at hcb hst
            rw [← hv] at hca hst
            clear hu hv
            rcases hst with ⟨heq, hnext⟩ | ⟨hne, hnext⟩
            · subst heq
              have HN : Hid (G (i + 1) = kk + 1) := hnext
              clear hnext
              go_wp2_with fail
              go_quiet (fail)
              go_wp2_with fail
              go_roundw
              case rel => exact ⟨i + 1, by go_num, by rw [HN.out]; go_num, by omega, ho5.drewN _⟩
              case measure => simp [intOf]; omega
            · have HN : Hid (G (i + 1) = kk) := hnext
              have hnb : (u == v) = false := by simpa using hne
              clear hnext
              go_wp2_with fail
              go_quiet (fail)
              go_wp2_with fail
              go_roundw
              case rel => exact ⟨i + 1, by go_num, by rw [HN.out], by omega, ho5.drewN _⟩
              case measure => simp [intOf]; omega
          · obtain hkk : kk = P.length := by omega
            subst hkk
            go_wp2_with fail
            refine (awake_any _).mono ?_
            rintro e w6 ⟨rfl, hb6⟩
            have ho6 := ho5.below' hb6
            go_wp2_with fail
            refine (ints_same ho6 (by omega) hl4 hw4).mono ?_
            rintro e w7 ⟨rfl, ho7⟩
            go_wp2_with fail
            go_ret
            exact ⟨rfl, ho7.below⟩
        · obtain hiq : i = Q.length := by omega
          have hkk : kk = P.length := by rw [HK.out, hiq]; exact hG.gend
          subst hiq
          subst hkk
          go_wp2_with fail
          refine (awake_any _).mono ?_
          rintro e w6 ⟨rfl, hb6⟩
          have ho6 := ho5.below' hb6
          go_wp2_with fail
          refine (ints_same ho6 (by omega) hl4 hw4).mono ?_
          rintro e w7 ⟨rfl, ho7⟩
          go_wp2_with fail
          go_ret
          exact ⟨rfl, ho7.below⟩

theorem labelBelow_walk (A : Option Addr) (len cap : Nat) (la ca lb cb : Int) (w : World) (hrows : RowsIn w A len cap [.int .i64, .int .i64]) (_ : (Lit.int .i64 la).wf = true) (_ : (Lit.int .i64 ca).wf = true) (_ : (Lit.int .i64 lb).wf = true) (_ : (Lit.int .i64 cb).wf = true) :
    Calls Try.prog 6 #[.slice A len cap, lab la ca, lab lb cb] w fun e w' => e = .returned (.bool true) ∧ Below w.heap.size w w' := by
  rcases labs_of hrows with h0 | ⟨b, off, hA, hlc, hcap, f, hf1, hf2⟩
  · exact labelBelow_short A len cap la ca lb cb w (fun _ => (0, 0)) (by omega) (.inl h0)
  · by_cases h : len ≤ 100
    · exact labelBelow_short A len cap la ca lb cb w f h hf1
    · rw [show min len 100 = 100 by omega] at hf2
      exact labelBelow_long A len cap la ca lb cb w f (by omega) hlc b off hA hcap hf2
end Go.Proofs.Ytfclpknkidebaaa
