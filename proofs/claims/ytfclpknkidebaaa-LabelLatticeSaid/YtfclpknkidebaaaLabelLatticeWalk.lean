/- The walk of LabelLattice. -/
import Derived.Test.YtfclpknkidebaaaLabAwake
import Derived.Test.YtfclpknkidebaaaOwn
import Derived.Deep.CutBlock
import Derived.Deep.DeepCutAuto
import Derived.Deep.Light
namespace Go.Proofs.Ytfclpknkidebaaa
open Go.RowKit

abbrev labO (l c : Int) : Obj := .cells #[.int .i64 l, .int .i64 c] 23 (0, 0)

/-- The three labels that were handed in, in boxes. -/
structure LatR (w : World) (la ca lb cb lc cc : Int) (γ : Nat → Option (Nat × Obj)) (w' : World) : Prop where
  own : Own w w' γ
  a : γ 100 = some (w.heap.size, labO la ca)
  b : γ 101 = some (w.heap.size + 1, labO lb cb)
  c : γ 102 = some (w.heap.size + 2, labO lc cc)

def TwoO (o : Obj) : Prop := ∃ x y : Value, o = .cells #[x, y] 23 (0, 0)

def latφ (la ca lb cb : Int) : Nat → Value → (Nat → Option (Nat × Obj)) → Prop
  | 0, v, _ => v = lab la ca
  | 1, v, _ => v = lab lb cb
  | 2, v, _ => v = lab (max la lb) (bits .or .i64 ca cb)
  | 3, v, _ => v = lab la ca
  | 4, v, _ => v = lab lb cb
  | 5, v, _ => v = lab (min la lb) (bits .and .i64 ca cb)
  | 6, v, γ => ∃ g o, v = .pointer (some ⟨g, 0, none⟩) ∧ γ 6 = some (g, o) ∧ TwoO o
  | 7, v, γ => ∃ g o, v = .pointer (some ⟨g, 0, none⟩) ∧ γ 7 = some (g, o) ∧ TwoO o
  | 8, _, γ => ∃ g, γ 6 = some (g, labO (max la lb) (bits .or .i64 ca cb))
  | 9, _, γ => ∃ g, γ 7 = some (g, labO (min la lb) (bits .and .i64 ca cb))
  | _, _, _ => True
def latψ : Nat → (Nat → Option (Nat × Obj)) → Prop
  | 6, γ => γ 6 = none
  | 7, γ => γ 7 = none
  | _, _ => True


theorem φ_off {la ca lb cb : Int} {γ : Nat → Option (Nat × Obj)} {t g : Nat} {o : Obj} {j : Nat} {u : Value} (h : latφ la ca lb cb j u γ) (h6 : j = 6 ∨ j = 8 → t ≠ 6) (h7 : j = 7 ∨ j = 9 → t ≠ 7) : latφ la ca lb cb j u (put γ t g o) := by
  match j with
  | 0 | 1 | 2 | 3 | 4 | 5 => exact h
  | 6 => obtain ⟨g', o', h1, h2, h3⟩ := h; exact ⟨g', o', h1, by rw [put_other _ _ _ (Ne.symm (h6 (.inl rfl)))]; exact h2, h3⟩
  | 7 => obtain ⟨g', o', h1, h2, h3⟩ := h; exact ⟨g', o', h1, by rw [put_other _ _ _ (Ne.symm (h7 (.inl rfl)))]; exact h2, h3⟩
  | 8 => obtain ⟨g', h2⟩ := h; exact ⟨g', by rw [put_other _ _ _ (Ne.symm (h6 (.inr rfl)))]; exact h2⟩
  | 9 => obtain ⟨g', h2⟩ := h; exact ⟨g', by rw [put_other _ _ _ (Ne.symm (h7 (.inr rfl)))]; exact h2⟩
  | _ + 10 => trivial
theorem ψ_off {γ : Nat → Option (Nat × Obj)} {t g : Nat} {o : Obj} {j : Nat} (h : latψ j γ) (h6 : j = 6 → t ≠ 6) (h7 : j = 7 → t ≠ 7) : latψ j (put γ t g o) := by
  match j with
  | 6 => show put γ t g o 6 = none; rw [put_other _ _ _ (Ne.symm (h6 rfl))]; exact h
  | 7 => show put γ t g o 7 = none; rw [put_other _ _ _ (Ne.symm (h7 rfl))]; exact h
  | 0 | 1 | 2 | 3 | 4 | 5 => trivial
  | _ + 8 => trivial

theorem keep_new {la ca lb cb : Int} {γ : Nat → Option (Nat × Obj)} {t g : Nat} {o : Obj} (ht : t = 6 ∨ t = 7) (hx : γ t = none) :
    (∀ j u, j ≠ t → latφ la ca lb cb j u γ → latφ la ca lb cb j u (put γ t g o)) ∧ (∀ j, j ≠ t → latψ j γ → latψ j (put γ t g o)) := by
  constructor
  · intro j u hj h
    refine φ_off h (fun e => ?_) (fun e => ?_)
    · rintro rfl
      rcases e with rfl | rfl
      · exact hj rfl
      · obtain ⟨g', h2⟩ := h; rw [hx] at h2; cases h2
    · rintro rfl
      rcases e with rfl | rfl
      · exact hj rfl
      · obtain ⟨g', h2⟩ := h; rw [hx] at h2; cases h2
  · intro j hj h
    exact ψ_off h (fun e => by rintro rfl; exact hj e) (fun e => by rintro rfl; exact hj e)

theorem keep_store {la ca lb cb : Int} {γ : Nat → Option (Nat × Obj)} {t g : Nat} {o o' : Obj} (ht : t = 6 ∨ t = 7) (hx : γ t = some (g, o')) (hT : TwoO o) :
    (∀ j u, j ≠ t + 2 → latφ la ca lb cb j u γ → latφ la ca lb cb j u (put γ t g o)) ∧ (∀ j, j ≠ t + 2 → latψ j γ → latψ j (put γ t g o)) := by
  constructor
  · intro j u hj h
    by_cases e : j = t
    · subst e
      rcases ht with rfl | rfl
      · obtain ⟨g', o2, h1, h2, _⟩ := h
        rw [hx] at h2; cases h2
        exact ⟨g, o, h1, put_same _ _ _ _, hT⟩
      · obtain ⟨g', o2, h1, h2, _⟩ := h
        rw [hx] at h2; cases h2
        exact ⟨g, o, h1, put_same _ _ _ _, hT⟩
    · exact φ_off h (fun e2 => by omega) (fun e2 => by omega)
  · intro j hj h
    refine ψ_off h (fun e => ?_) (fun e => ?_)
    · rintro rfl; subst e; rw [show γ 6 = none from h] at hx; cases hx
    · rintro rfl; subst e; rw [show γ 7 = none from h] at hx; cases hx

theorem LatR.stored {w w' w2 : World} {la ca lb cb lc cc : Int} {γ : Nat → Option (Nat × Obj)} (h : LatR w la ca lb cb lc cc γ w') {t g : Nat} {o : Obj} (ht : t = 6 ∨ t = 7) (ho : Own w w2 (put γ t g o)) : LatR w la ca lb cb lc cc (put γ t g o) w2 :=
  ⟨ho, by rw [put_other _ _ _ (by omega)]; exact h.a, by rw [put_other _ _ _ (by omega)]; exact h.b, by rw [put_other _ _ _ (by omega)]; exact h.c⟩
theorem LatR.below {w w' w2 : World} {la ca lb cb lc cc : Int} {γ : Nat → Option (Nat × Obj)} (h : LatR w la ca lb cb lc cc γ w') (hb : Below w'.heap.size w' w2) : LatR w la ca lb cb lc cc γ w2 :=
  ⟨h.own.below' hb, h.a, h.b, h.c⟩

theorem two_store {γ : Nat → Option (Nat × Obj)} {w0 w : World} {t g : Nat} {x y u v : Value} (h : Own w0 w γ) (hg : γ t = some (g, .cells #[x, y] 23 (0, 0))) :
    Own w0 ((w.setCell ⟨g, 0, none⟩ u).setCell ⟨g, 1, none⟩ v) (put γ t g (.cells #[u, v] 23 (0, 0))) := by
  have h2 := (h.set hg 0 u).set (put_same _ _ _ _) 1 v
  rw [put_put] at h2
  exact h2

theorem LatR.start (w : World) (la ca lb cb lc cc : Int) : LatR w la ca lb cb lc cc (put (put (put (fun _ => none) 100 w.heap.size (labO la ca)) 101 (w.heap.size + 1) (labO lb cb)) 102 (w.heap.size + 2) (labO lc cc))
    (((w.alloc (Obj.cells #[Value.int IntKind.i64 la, Value.int IntKind.i64 ca] 23)).alloc (Obj.cells #[Value.int IntKind.i64 lb, Value.int IntKind.i64 cb] 23)).alloc (Obj.cells #[Value.int IntKind.i64 lc, Value.int IntKind.i64 cc] 23)).drew := by
  have h0 : Own w w (fun _ => none) := ⟨Below.refl _ _, fun _ _ _ h => (nomatch h), fun _ _ _ _ _ h => (nomatch h)⟩
  have h1 := ((h0.new 100 (labO la ca)).new 101 (labO lb cb)).new 102 (labO lc cc)
  simp only [World.size_alloc] at h1
  exact ⟨h1.drew, by simp [put], by simp [put], by simp [put]⟩

abbrev LatP (w : World) (la ca lb cb lc cc : Int) (γ : Nat → Option (Nat × Obj)) : World → Prop := LatR w la ca lb cb lc cc γ

theorem lat_leq {w : World} {la ca lb cb lc cc : Int} {γ : Nat → Option (Nat × Obj)} (x : Cls (LatR w la ca lb cb lc cc γ)) {l1 c1 l2 c2 : Int} {r : Bool} (hr : leqB l1 c1 l2 c2 = r) :
    Calls Try.prog 7 #[lab l1 c1, lab l2 c2] x.world fun e w'' => e = .returned (.bool r) ∧ ∃ y : Cls (LatR w la ca lb cb lc cc γ), w'' = y.world :=
  cls_call ((leq_any l1 c1 l2 c2 x.world).mono fun e w' ⟨he, hb⟩ => ⟨by rw [he, hr], x.ok.below hb⟩)
theorem lat_join {w : World} {la ca lb cb lc cc : Int} {γ : Nat → Option (Nat × Obj)} (x : Cls (LatR w la ca lb cb lc cc γ)) {l1 c1 l2 c2 l c : Int} (hl : max l1 l2 = l) (hc : bits .or .i64 c1 c2 = c) :
    Calls Try.prog 9 #[lab l1 c1, lab l2 c2] x.world fun e w'' => e = .returned (lab l c) ∧ ∃ y : Cls (LatR w la ca lb cb lc cc γ), w'' = y.world :=
  cls_call ((join_any l1 c1 l2 c2 x.world).mono fun e w' ⟨he, hb⟩ => ⟨by rw [he, hl, hc], x.ok.below hb⟩)
theorem lat_meet {w : World} {la ca lb cb lc cc : Int} {γ : Nat → Option (Nat × Obj)} (x : Cls (LatR w la ca lb cb lc cc γ)) {l1 c1 l2 c2 l c : Int} (hl : min l1 l2 = l) (hc : bits .and .i64 c1 c2 = c) :
    Calls Try.prog 10 #[lab l1 c1, lab l2 c2] x.world fun e w'' => e = .returned (lab l c) ∧ ∃ y : Cls (LatR w la ca lb cb lc cc γ), w'' = y.world :=
  cls_call ((meet_any l1 c1 l2 c2 x.world).mono fun e w' ⟨he, hb⟩ => ⟨by rw [he, hl, hc], x.ok.below hb⟩)
theorem lat_good {w : World} {la ca lb cb lc cc : Int} {γ : Nat → Option (Nat × Obj)} (x : Cls (LatR w la ca lb cb lc cc γ)) {l c : Int} {r : Bool} (hr : goodB l c = r) :
    Calls Try.prog 11 #[lab l c] x.world fun e w'' => e = .returned (.bool r) ∧ ∃ y : Cls (LatR w la ca lb cb lc cc γ), w'' = y.world :=
  cls_call ((good_any l c x.world).mono fun e w' ⟨he, hb⟩ => ⟨by rw [he, hr], x.ok.below hb⟩)
theorem lat_awake {w : World} {la ca lb cb lc cc : Int} {γ : Nat → Option (Nat × Obj)} (x : Cls (LatR w la ca lb cb lc cc γ)) :
    Calls Try.prog 8 #[] x.world fun e w'' => e = .returned (.bool true) ∧ ∃ y : Cls (LatR w la ca lb cb lc cc γ), w'' = y.world :=
  cls_call ((awake_any x.world).mono fun e w' ⟨he, hb⟩ => ⟨he, x.ok.below hb⟩)

/-- What the law needs of the bits. -/
structure LatFacts (la ca lb cb lc cc lj cj lm cm : Int) : Prop where
  aj : leqB la ca lj cj = true
  bj : leqB lb cb lj cj = true
  ma : leqB lm cm la ca = true
  mb : leqB lm cm lb cb = true
  jc : leqB la ca lc cc = true → leqB lb cb lc cc = true → leqB lj cj lc cc = true
  cm_ : leqB lc cc la ca = true → leqB lc cc lb cb = true → leqB lc cc lm cm = true
  ba1 : max lb la = lj
  ba2 : bits .or .i64 cb ca = cj
  ba3 : min lb la = lm
  ba4 : bits .and .i64 cb ca = cm
  am1 : max la lm = la
  am2 : bits .or .i64 ca cm = ca
  aj1 : min la lj = la
  aj2 : bits .and .i64 ca cj = ca
  gd : goodB la ca = true → goodB lb cb = true → goodB lj cj = true

/-- What the first statement of the law leaves: the two labels that were made. -/
def LatCut (w : World) (la ca lb cb lc cc : Int) (s7 s8 : Value) (wx : World) : Prop := ∃ g7 g8 γ, s7 = .pointer (some ⟨g7, 0, none⟩) ∧ s8 = .pointer (some ⟨g8, 0, none⟩) ∧ LatR w la ca lb cb lc cc γ wx ∧
  γ 6 = some (g7, labO (max la lb) (bits .or .i64 ca cb)) ∧ γ 7 = some (g8, labO (min la lb) (bits .and .i64 ca cb))

set_option maxRecDepth 100000 in
set_option maxHeartbeats 8000000 in
theorem lat (la ca lb cb lc cc lj cj lm cm : Int) (w : World) (F : LatFacts la ca lb cb lc cc lj cj lm cm) (ej : max la lb = lj) (ecj : bits .or .i64 ca cb = cj) (em : min la lb = lm) (ecm : bits .and .i64 ca cb = cm) :
    Calls Try.prog 4 #[lab la ca, lab lb cb, lab lc cc] w fun e w' => e = .returned (.bool true) ∧ Below w.heap.size w w' := by
  have Ej : Hid (max la lb = lj) := ej
  have Ecj : Hid (bits .or .i64 ca cb = cj) := ecj
  have Em : Hid (min la lb = lm) := em
  have Ecm : Hid (bits .and .i64 ca cb = cm) := ecm
  clear ej ecj em ecm
  go_enter Try.func4, Try.ntmps4
  go_upto_region 1 with (fail)
  go_cut [7, 8] (fun s7 s8 wx => LatCut w la ca lb cb lc cc s7 s8 wx)
  case rest =>
    obtain ⟨g7, g8, γ, rfl, rfl, hR, h7, h8⟩ := hcut
    rw [Ej.out, Ecj.out] at h7
    rw [Em.out, Ecm.out] at h8
    have fa0 : ∀ x : Cls (LatR w la ca lb cb lc cc γ), x.world.cell? ⟨w.heap.size, 0, none⟩ = some (.int .i64 la) := fun x => x.ok.own.cell x.ok.a (i := 0) rfl
    have fa1 : ∀ x : Cls (LatR w la ca lb cb lc cc γ), x.world.cell? ⟨w.heap.size, 1, none⟩ = some (.int .i64 ca) := fun x => x.ok.own.cell x.ok.a (i := 1) rfl
    have fb0 : ∀ x : Cls (LatR w la ca lb cb lc cc γ), x.world.cell? ⟨w.heap.size + 1, 0, none⟩ = some (.int .i64 lb) := fun x => x.ok.own.cell x.ok.b (i := 0) rfl
    have fb1 : ∀ x : Cls (LatR w la ca lb cb lc cc γ), x.world.cell? ⟨w.heap.size + 1, 1, none⟩ = some (.int .i64 cb) := fun x => x.ok.own.cell x.ok.b (i := 1) rfl
    have fc0 : ∀ x : Cls (LatR w la ca lb cb lc cc γ), x.world.cell? ⟨w.heap.size + 2, 0, none⟩ = some (.int .i64 lc) := fun x => x.ok.own.cell x.ok.c (i := 0) rfl
    have fc1 : ∀ x : Cls (LatR w la ca lb cb lc cc γ), x.world.cell? ⟨w.heap.size + 2, 1, none⟩ = some (.int .i64 cc) := fun x => x.ok.own.cell x.ok.c (i := 1) rfl
    have fj0 : ∀ x : Cls (LatR w la ca lb cb lc cc γ), x.world.cell? ⟨g7, 0, none⟩ = some (.int .i64 lj) := fun x => x.ok.own.cell h7 (i := 0) rfl
    have fj1 : ∀ x : Cls (LatR w la ca lb cb lc cc γ), x.world.cell? ⟨g7, 1, none⟩ = some (.int .i64 cj) := fun x => x.ok.own.cell h7 (i := 1) rfl
    have fm0 : ∀ x : Cls (LatR w la ca lb cb lc cc γ), x.world.cell? ⟨g8, 0, none⟩ = some (.int .i64 lm) := fun x => x.ok.own.cell h8 (i := 0) rfl
    have fm1 : ∀ x : Cls (LatR w la ca lb cb lc cc γ), x.world.cell? ⟨g8, 1, none⟩ = some (.int .i64 cm) := fun x => x.ok.own.cell h8 (i := 1) rfl
    have hne0 : Nonempty (Cls (LatR w la ca lb cb lc cc γ)) := ⟨⟨_, hR⟩⟩
    go_upto_region 2 with (fail)
    refine wp_region_plain (LatR w la ca lb cb lc cc γ) hR ?_
    repeat (go_big_quiet_step (first | exact lat_leq _ F.aj | exact lat_leq _ F.bj | exact lat_leq _ F.ma | exact lat_leq _ F.mb))
    refine wpQuiet_nil ?_
    rintro _ ⟨⟨w1, h1⟩, rfl⟩
    go_upto_region 4 with (fail)
    go_cut [66] (fun s66 wx => s66 = .bool false ∧ LatR w la ca lb cb lc cc γ wx)
    case first =>
      cases hx1 : leqB la ca lc cc with
      | false =>
        cases hy1 : leqB lc cc la ca with
        | false =>
          refine wp_region_plain (LatR w la ca lb cb lc cc γ) h1 ?_
          repeat (go_big_quiet_step (first | exact lat_leq _ hx1 | exact lat_leq _ hy1))
          refine wpQuiet_nil ?_
          rintro _ ⟨⟨w2, h2⟩, rfl⟩
          go_wp2_with fail
          go_meet
          exact ⟨rfl, h2⟩
        | true =>
          cases hy2 : leqB lc cc lb cb with
          | false =>
            refine wp_region_plain (LatR w la ca lb cb lc cc γ) h1 ?_
            repeat (go_big_quiet_step (first | exact lat_leq _ hx1 | exact lat_leq _ hy1 | exact lat_leq _ hy2))
            refine wpQuiet_nil ?_
            rintro _ ⟨⟨w2, h2⟩, rfl⟩
            go_wp2_with fail
            go_meet
            exact ⟨rfl, h2⟩
          | true =>
            have hy3 := F.cm_ hy1 hy2
            refine wp_region_plain (LatR w la ca lb cb lc cc γ) h1 ?_
            repeat (go_big_quiet_step (first | exact lat_leq _ hx1 | exact lat_leq _ hy1 | exact lat_leq _ hy2 | exact lat_leq _ hy3))
            refine wpQuiet_nil ?_
            rintro _ ⟨⟨w2, h2⟩, rfl⟩
            go_wp2_with fail
            go_meet
            exact ⟨rfl, h2⟩
      | true =>
        cases hx2 : leqB lb cb lc cc with
        | false =>
          cases hy1 : leqB lc cc la ca with
          | false =>
            refine wp_region_plain (LatR w la ca lb cb lc cc γ) h1 ?_
            repeat (go_big_quiet_step (first | exact lat_leq _ hx1 | exact lat_leq _ hx2 | exact lat_leq _ hy1))
            refine wpQuiet_nil ?_
            rintro _ ⟨⟨w2, h2⟩, rfl⟩
            go_wp2_with fail
            go_meet
            exact ⟨rfl, h2⟩
          | true =>
            cases hy2 : leqB lc cc lb cb with
            | false =>
              refine wp_region_plain (LatR w la ca lb cb lc cc γ) h1 ?_
              repeat (go_big_quiet_step (first | exact lat_leq _ hx1 | exact lat_leq _ hx2 | exact lat_leq _ hy1 | exact lat_leq _ hy2))
              refine wpQuiet_nil ?_
              rintro _ ⟨⟨w2, h2⟩, rfl⟩
              go_wp2_with fail
              go_meet
              exact ⟨rfl, h2⟩
            | true =>
              have hy3 := F.cm_ hy1 hy2
              refine wp_region_plain (LatR w la ca lb cb lc cc γ) h1 ?_
              repeat (go_big_quiet_step (first | exact lat_leq _ hx1 | exact lat_leq _ hx2 | exact lat_leq _ hy1 | exact lat_leq _ hy2 | exact lat_leq _ hy3))
              refine wpQuiet_nil ?_
              rintro _ ⟨⟨w2, h2⟩, rfl⟩
              go_wp2_with fail
              go_meet
              exact ⟨rfl, h2⟩
        | true =>
          have hx3 := F.jc hx1 hx2
          cases hy1 : leqB lc cc la ca with
          | false =>
            refine wp_region_plain (LatR w la ca lb cb lc cc γ) h1 ?_
            repeat (go_big_quiet_step (first | exact lat_leq _ hx1 | exact lat_leq _ hx2 | exact lat_leq _ hx3 | exact lat_leq _ hy1))
            refine wpQuiet_nil ?_
            rintro _ ⟨⟨w2, h2⟩, rfl⟩
            go_wp2_with fail
            go_meet
            exact ⟨rfl, h2⟩
          | true =>
            cases hy2 : leqB lc cc lb cb with
            | false =>
              refine wp_region_plain (LatR w la ca lb cb lc cc γ) h1 ?_
              repeat (go_big_quiet_step (first | exact lat_leq _ hx1 | exact lat_leq _ hx2 | exact lat_leq _ hx3 | exact lat_leq _ hy1 | exact lat_leq _ hy2))
              refine wpQuiet_nil ?_
              rintro _ ⟨⟨w2, h2⟩, rfl⟩
              go_wp2_with fail
              go_meet
              exact ⟨rfl, h2⟩
            | true =>
              have hy3 := F.cm_ hy1 hy2
              refine wp_region_plain (LatR w la ca lb cb lc cc γ) h1 ?_
              repeat (go_big_quiet_step (first | exact lat_leq _ hx1 | exact lat_leq _ hx2 | exact lat_leq _ hx3 | exact lat_leq _ hy1 | exact lat_leq _ hy2 | exact lat_leq _ hy3))
              refine wpQuiet_nil ?_
              rintro _ ⟨⟨w2, h2⟩, rfl⟩
              go_wp2_with fail
              go_meet
              exact ⟨rfl, h2⟩
    case rest =>
      obtain ⟨rfl, h2⟩ := hcut
      go_upto_region 6 with (fail)
      cases hz : goodB lj cj with
      | true =>
        refine wp_region_class (LatR w la ca lb cb lc cc γ) (by kernel_rfl) (by kernel_rfl) (h2.below ((Below.refl _ _).drew)) ?_
        repeat (go_big_quiet_step (first | exact lat_awake _ | exact lat_join _ F.ba1 F.ba2 | exact lat_meet _ F.ba3 F.ba4 | exact lat_join _ F.am1 F.am2 | exact lat_meet _ F.aj1 F.aj2 | exact lat_good _ hz))
        refine wpQuiet_nil ?_
        rintro _ ⟨⟨w3, h3⟩, rfl⟩
        go_wp2
        go_ret
        exact ⟨rfl, h3.own.below⟩
      | false =>
        cases hga : goodB la ca with
        | false =>
          refine wp_region_class (LatR w la ca lb cb lc cc γ) (by kernel_rfl) (by kernel_rfl) (h2.below ((Below.refl _ _).drew)) ?_
          repeat (go_big_quiet_step (first | exact lat_awake _ | exact lat_join _ F.ba1 F.ba2 | exact lat_meet _ F.ba3 F.ba4 | exact lat_join _ F.am1 F.am2 | exact lat_meet _ F.aj1 F.aj2 | exact lat_good _ hz | exact lat_good _ hga))
          refine wpQuiet_nil ?_
          rintro _ ⟨⟨w3, h3⟩, rfl⟩
          go_wp2
          go_ret
          exact ⟨rfl, h3.own.below⟩
        | true =>
          have hgb : goodB lb cb = false := by
            cases hgb : goodB lb cb with
            | false => rfl
            | true => rw [F.gd hga hgb] at hz; cases hz
          refine wp_region_class (LatR w la ca lb cb lc cc γ) (by kernel_rfl) (by kernel_rfl) (h2.below ((Below.refl _ _).drew)) ?_
          repeat (go_big_quiet_step (first | exact lat_awake _ | exact lat_join _ F.ba1 F.ba2 | exact lat_meet _ F.ba3 F.ba4 | exact lat_join _ F.am1 F.am2 | exact lat_meet _ F.aj1 F.aj2 | exact lat_good _ hz | exact lat_good _ hga | exact lat_good _ hgb))
          refine wpQuiet_nil ?_
          rintro _ ⟨⟨w3, h3⟩, rfl⟩
          go_wp2
          go_ret
          exact ⟨rfl, h3.own.below⟩
  case first =>
  refine wp_region_each (latφ la ca lb cb) latψ (R := LatR w la ca lb cb lc cc) (put (put (put (fun _ => none) 100 w.heap.size (labO la ca)) 101 (w.heap.size + 1) (labO lb cb)) 102 (w.heap.size + 2) (labO lc cc))
    (by kernel_rfl) (by kernel_rfl) (LatR.start w la ca lb cb lc cc) ?h1 ?hφ ?hop ?hfin
  case h1 =>
    intro j
    match j with
    | 6 | 7 => simp [latψ, put]
    | 0 | 1 | 2 | 3 | 4 | 5 => trivial
    | _ + 8 => trivial
  case hφ =>
    intro i o hi hn v γ h
    have hlt : i < 10 := (Array.getElem?_eq_some_iff.1 hi).1
    obtain rfl | rfl | rfl | rfl | rfl | rfl | rfl | rfl | rfl | rfl : i = 0 ∨ i = 1 ∨ i = 2 ∨ i = 3 ∨ i = 4 ∨ i = 5 ∨ i = 6 ∨ i = 7 ∨ i = 8 ∨ i = 9 := by omega
    all_goals (obtain rfl := (Option.some.inj hi).symm; first | (cases hn; done) | exact h)
  case hop =>
    intro i o hi
    have hlt : i < 10 := (Array.getElem?_eq_some_iff.1 hi).1
    obtain rfl | rfl | rfl | rfl | rfl | rfl | rfl | rfl | rfl | rfl : i = 0 ∨ i = 1 ∨ i = 2 ∨ i = 3 ∨ i = 4 ∨ i = 5 ∨ i = 6 ∨ i = 7 ∨ i = 8 ∨ i = 9 := by omega
    all_goals (obtain rfl := (Option.some.inj hi).symm; clear hi hlt; intro a w' γ hR hs hd hψ hw)
    · have e3 : a.tmps.getD 3 undef = .pointer (some ⟨w.heap.size, 0, none⟩) := hs 3 (by kernel_rfl)
      have c0 := hR.own.cell hR.a (i := 0) rfl
      have c1 := hR.own.cell hR.a (i := 1) rfl
      go_simp
      exact EachPost.same rfl hR rfl
    · have e3 : a.tmps.getD 4 undef = .pointer (some ⟨w.heap.size + 1, 0, none⟩) := hs 4 (by kernel_rfl)
      have c0 := hR.own.cell hR.b (i := 0) rfl
      have c1 := hR.own.cell hR.b (i := 1) rfl
      go_simp
      exact EachPost.same rfl hR rfl
    · have e9 : a.tmps.getD 9 undef = lab la ca := hd 0 _ (by kernel_rfl) rfl
      have e10 : a.tmps.getD 10 undef = lab lb cb := hd 1 _ (by kernel_rfl) rfl
      go_simp
      refine (join_any _ _ _ _ _).mono ?_
      rintro e w2 ⟨rfl, hb⟩
      exact EachPost.same rfl (hR.below hb) rfl
    · have e3 : a.tmps.getD 3 undef = .pointer (some ⟨w.heap.size, 0, none⟩) := hs 3 (by kernel_rfl)
      have c0 := hR.own.cell hR.a (i := 0) rfl
      have c1 := hR.own.cell hR.a (i := 1) rfl
      go_simp
      exact EachPost.same rfl hR rfl
    · have e3 : a.tmps.getD 4 undef = .pointer (some ⟨w.heap.size + 1, 0, none⟩) := hs 4 (by kernel_rfl)
      have c0 := hR.own.cell hR.b (i := 0) rfl
      have c1 := hR.own.cell hR.b (i := 1) rfl
      go_simp
      exact EachPost.same rfl hR rfl
    · have e9 : a.tmps.getD 12 undef = lab la ca := hd 3 _ (by kernel_rfl) rfl
      have e10 : a.tmps.getD 13 undef = lab lb cb := hd 4 _ (by kernel_rfl) rfl
      go_simp
      refine (meet_any _ _ _ _ _).mono ?_
      rintro e w2 ⟨rfl, hb⟩
      exact EachPost.same rfl (hR.below hb) rfl
    · go_simp
      have hk := keep_new (la := la) (ca := ca) (lb := lb) (cb := cb) (g := w'.heap.size) (o := .cells #[.int .i64 0, .int .i64 0] 23 (0, 0)) (.inl rfl) hψ
      exact ⟨_, _, rfl, hR.stored (.inl rfl) (hR.own.new 6 _), ⟨_, _, rfl, put_same _ _ _ _, ⟨_, _, rfl⟩⟩, hk⟩
    · go_simp
      have hk := keep_new (la := la) (ca := ca) (lb := lb) (cb := cb) (g := w'.heap.size) (o := .cells #[.int .i64 0, .int .i64 0] 23 (0, 0)) (.inr rfl) hψ
      exact ⟨_, _, rfl, hR.stored (.inr rfl) (hR.own.new 7 _), ⟨_, _, rfl, put_same _ _ _ _, ⟨_, _, rfl⟩⟩, hk⟩
    · obtain ⟨g, o, e7, hg, x, y, rfl⟩ := hd 6 _ (by kernel_rfl) rfl
      have e7 : a.tmps.getD 7 undef = .pointer (some ⟨g, 0, none⟩) := e7
      have e11 : a.tmps.getD 11 undef = lab (max la lb) (bits .or .i64 ca cb) := hd 2 _ (by kernel_rfl) rfl
      have c0 := hR.own.cell hg (i := 0) rfl
      have c1 := hR.own.cell hg (i := 1) rfl
      have f0 := hR.own.free hg 0
      have f1 := hR.own.free hg 1
      have hk := keep_store (la := la) (ca := ca) (lb := lb) (cb := cb) (o := labO (max la lb) (bits .or .i64 ca cb)) (.inl rfl) hg ⟨_, _, rfl⟩
      have hown := two_store (u := .int .i64 (max la lb)) (v := .int .i64 (bits .or .i64 ca cb)) hR.own hg
      have hR' := hR.stored (.inl rfl) hown
      go_simp
      exact ⟨undef, _, rfl, hR', ⟨_, put_same _ _ _ _⟩, hk⟩
    · obtain ⟨g, o, e7, hg, x, y, rfl⟩ := hd 7 _ (by kernel_rfl) rfl
      have e7 : a.tmps.getD 8 undef = .pointer (some ⟨g, 0, none⟩) := e7
      have e11 : a.tmps.getD 14 undef = lab (min la lb) (bits .and .i64 ca cb) := hd 5 _ (by kernel_rfl) rfl
      have c0 := hR.own.cell hg (i := 0) rfl
      have c1 := hR.own.cell hg (i := 1) rfl
      have f0 := hR.own.free hg 0
      have f1 := hR.own.free hg 1
      have hk := keep_store (la := la) (ca := ca) (lb := lb) (cb := cb) (o := labO (min la lb) (bits .and .i64 ca cb)) (.inr rfl) hg ⟨_, _, rfl⟩
      have hown := two_store (u := .int .i64 (min la lb)) (v := .int .i64 (bits .and .i64 ca cb)) hR.own hg
      have hR' := hR.stored (.inr rfl) hown
      go_simp
      exact ⟨undef, _, rfl, hR', ⟨_, put_same _ _ _ _⟩, hk⟩
  case hfin =>
    intro w' γ vals hR hφ
    obtain ⟨g7, o7, v7, hg7, _⟩ := hφ 6 _ rfl
    obtain ⟨g8, o8, v8, hg8, _⟩ := hφ 7 _ rfl
    have v7 : vals 7 = .pointer (some ⟨g7, 0, none⟩) := v7
    have v8 : vals 8 = .pointer (some ⟨g8, 0, none⟩) := v8
    obtain ⟨g7', hg7'⟩ := hφ 8 _ rfl
    obtain ⟨g8', hg8'⟩ := hφ 9 _ rfl
    have hcut : LatCut w la ca lb cb lc cc (vals 7) (vals 8) w' := by
      rw [hg7] at hg7'; cases hg7'
      rw [hg8] at hg8'; cases hg8'
      exact ⟨_, _, γ, v7, v8, hR, hg7, hg8⟩
    clear v7 v8 hg7 hg8 hg7' hg8' hφ hR
    simp only [dsts, List.filterMap_cons, List.filterMap_nil, List.foldl_cons, List.foldl_nil, List.setIfInBounds_toArray, List.set_cons_zero, List.set_cons_succ]
    go_wp2_with fail
    go_meet
    exact hcut

theorem Sub.or_left (a b : Int) : Sub a (bits .or .i64 a b) := fun i h => by rw [U_or, Nat.testBit_or, h, Bool.true_or]
theorem Sub.or_right (a b : Int) : Sub b (bits .or .i64 a b) := fun i h => by rw [U_or, Nat.testBit_or, h, Bool.or_true]
theorem Sub.and_left (a b : Int) : Sub (bits .and .i64 a b) a := fun i h => by rw [U_and, Nat.testBit_and, Bool.and_eq_true] at h; exact h.1
theorem Sub.and_right (a b : Int) : Sub (bits .and .i64 a b) b := fun i h => by rw [U_and, Nat.testBit_and, Bool.and_eq_true] at h; exact h.2
theorem Sub.or_le {a b c : Int} (h : Sub a c) (k : Sub b c) : Sub (bits .or .i64 a b) c := fun i hi => by
  rw [U_or, Nat.testBit_or, Bool.or_eq_true] at hi
  rcases hi with hi | hi
  · exact h i hi
  · exact k i hi
theorem Sub.le_and {a b c : Int} (h : Sub c a) (k : Sub c b) : Sub c (bits .and .i64 a b) := fun i hi => by
  rw [U_and, Nat.testBit_and, h i hi, k i hi]; rfl
theorem or_W (a b : Int) : W64 (bits .or .i64 a b) := by rw [or_i64]; exact S_W _
theorem and_W (a b : Int) : W64 (bits .and .i64 a b) := by rw [and_i64]; exact S_W _

theorem latFacts (la ca lb cb lc cc : Int) (wa : W64 ca) (wb : W64 cb) : LatFacts la ca lb cb lc cc (max la lb) (bits .or .i64 ca cb) (min la lb) (bits .and .i64 ca cb) where
  aj := (leqB_iff _ _ _ _).2 ⟨by omega, Sub.or_left _ _⟩
  bj := (leqB_iff _ _ _ _).2 ⟨by omega, Sub.or_right _ _⟩
  ma := (leqB_iff _ _ _ _).2 ⟨by omega, Sub.and_left _ _⟩
  mb := (leqB_iff _ _ _ _).2 ⟨by omega, Sub.and_right _ _⟩
  jc h k := by
    have h := (leqB_iff _ _ _ _).1 h
    have k := (leqB_iff _ _ _ _).1 k
    exact (leqB_iff _ _ _ _).2 ⟨by omega, Sub.or_le h.2 k.2⟩
  cm_ h k := by
    have h := (leqB_iff _ _ _ _).1 h
    have k := (leqB_iff _ _ _ _).1 k
    exact (leqB_iff _ _ _ _).2 ⟨by omega, Sub.le_and h.2 k.2⟩
  ba1 := by omega
  ba2 := Sub.antisymm (or_W _ _) (or_W _ _) (Sub.or_le (Sub.or_right _ _) (Sub.or_left _ _)) (Sub.or_le (Sub.or_right _ _) (Sub.or_left _ _))
  ba3 := by omega
  ba4 := Sub.antisymm (and_W _ _) (and_W _ _) (Sub.le_and (Sub.and_right _ _) (Sub.and_left _ _)) (Sub.le_and (Sub.and_right _ _) (Sub.and_left _ _))
  am1 := by omega
  am2 := Sub.antisymm (or_W _ _) wa (Sub.or_le (Sub.refl _) (Sub.and_left _ _)) (Sub.or_left _ _)
  aj1 := by omega
  aj2 := Sub.antisymm (and_W _ _) wa (Sub.and_left _ _) (Sub.le_and (Sub.refl _) (Sub.or_left _ _))
  gd h k := by
    unfold goodB at h k ⊢
    rw [decide_eq_true_eq] at h k ⊢
    have ua := (U_small wa).2 ⟨h.2.2.1, h.2.2.2⟩
    have ub := (U_small wb).2 ⟨k.2.2.1, k.2.2.2⟩
    have uo : U (bits .or .i64 ca cb) < 65536 := by rw [U_or]; exact Nat.or_lt_two_pow (n := 16) ua ub
    have hc := (U_small (or_W ca cb)).1 uo
    refine ⟨by omega, by omega, hc.1, hc.2⟩

theorem labelLattice_walk (la ca lb cb lc cc : Int) (w : World) (_ : (Lit.int .i64 la).wf = true) (wca : (Lit.int .i64 ca).wf = true) (_ : (Lit.int .i64 lb).wf = true) (wcb : (Lit.int .i64 cb).wf = true)
    (_ : (Lit.int .i64 lc).wf = true) (_ : (Lit.int .i64 cc).wf = true) :
    Calls Try.prog 4 #[lab la ca, lab lb cb, lab lc cc] w fun e w' => e = .returned (.bool true) ∧ Below w.heap.size w w' :=
  lat la ca lb cb lc cc _ _ _ _ w (latFacts la ca lb cb lc cc (W64_of wca) (W64_of wcb)) rfl rfl rfl rfl
end Go.Proofs.Ytfclpknkidebaaa
