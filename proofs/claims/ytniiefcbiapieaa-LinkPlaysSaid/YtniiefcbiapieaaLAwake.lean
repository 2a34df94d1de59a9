/- The fixed fact of the links' laws. -/
import Derived.Test.YtniiefcbiapieaaDoAny
namespace Go.Proofs.Ytniiefcbiapieaa
open Go.RowKit Go.ChangeMaps

theorem fits0 : Fits 0 := by unfold Fits; rfl
theorem fits1 : Fits 1 := by unfold Fits; rfl
theorem fits5 : Fits 5 := by unfold Fits; rfl

def awLs : List LinkS := [⟨2, 0, 1, 2⟩]
def awS (en : Nat → EndS) : LS := ⟨awLs, en, fun _ _ => none⟩

/-- A policy of one link up, in memory. -/
theorem one_read {w0 w : World} {γ : Nat → Option (Nat × Obj)} {t g : Nat} {kind size : Int} (h : Own w0 w γ) (hg : γ t = some (g, .cells #[.int .i64 kind, .int .i64 0, .int .i64 1, .int .i64 size] 78 (0, 0))) :
    ∀ (j : Nat) (u : Value), (linkVals [⟨kind, 0, 1, size⟩])[j]? = some u → w.cell? ((⟨g, 0, none⟩ : Addr).add j) = some u := by
  intro j u hj
  rw [WideShapes.add_plain, Nat.zero_add]
  refine h.cell hg ?_
  rw [← hj]
  show _ = (LinkS.vals ⟨kind, 0, 1, size⟩ ++ [])[j]?
  rw [List.append_nil]
  simp [LinkS.vals]
theorem one_cells (kind size : Int) : ∀ u ∈ linkVals [⟨kind, 0, 1, size⟩], u.oneCell' = true := by
  intro u hu
  simp [linkVals, LinkS.vals] at hu
  rcases hu with rfl | rfl | rfl | rfl <;> rfl

theorem awLen (en : Nat → EndS) : (awS en).ls.length ≤ 10 := by show 1 ≤ 10; decide
theorem aw1 (en : Nat → EndS) (h : en 0 = .tap 2 [] 0) : doR (awS en) 0 1 33 0 7 0 = (0, 0, 0, awS (updE en 0 (.tap 2 [7] 0))) := by
  have hm : mayE awLs 0 33 0 = 0 := by decide
  unfold doR
  rw [if_neg (by decide), if_neg (by simp [awS, hm])]
  show (match en 0 with | .tap z all next => _ | .cell c => _) = _
  rw [h]
  rfl
theorem aw2 (en : Nat → EndS) : doR (awS en) 1 1 33 0 8 0 = (10, 0, 0, awS en) := by
  have hm : mayE awLs 1 33 0 = 10 := by decide
  unfold doR
  rw [if_neg (by decide), if_pos (by simp [awS, hm])]
  simp [awS, hm]
theorem aw3 (en : Nat → EndS) : doR (awS en) 0 1 34 0 0 0 = (10, 0, 0, awS en) := by
  have hm : mayE awLs 0 34 0 = 10 := by decide
  unfold doR
  rw [if_neg (by decide), if_pos (by simp [awS, hm])]
  simp [awS, hm]
theorem aw4 (en : Nat → EndS) (h : en 0 = .tap 2 [7] 0) : doR (awS en) 1 5 34 0 0 0 = (0, 7, 0, awS (updE en 0 (.tap 2 [7] 1))) := by
  have hm : mayE awLs 1 34 0 = 0 := by decide
  unfold doR
  rw [if_neg (by decide), if_neg (by simp [awS, hm])]
  show (match en 0 with | .tap z all next => _ | .cell c => _) = _
  rw [h]
  rfl
theorem aw5 (en : Nat → EndS) : doR (awS en) 1 5 31 0 0 0 = (8, 0, 0, awS en) := by
  have hm : mayE awLs 1 31 0 = 8 := by decide
  unfold doR
  rw [if_neg (by decide), if_pos (by simp [awS, hm])]
  simp [awS, hm]

theorem age_upd {en : Nat → EndS} {e : EndS} {n : Nat} (h : e.age < n) : ∀ i, i < awLs.length → (updE en 0 e i).age < n := by
  intro i hi
  have : i = 0 := by have : awLs.length = 1 := rfl; omega
  subst this
  rw [show updE en 0 e 0 = e from if_pos rfl]
  exact h

theorem age_first {en : Nat → EndS} (h : en 0 = .tap 2 [] 0) : ∀ i, i < (awS en).ls.length → ((awS en).en i).age < 999 := by
  intro i hi
  have : i = 0 := by have : (awS en).ls.length = 1 := rfl; omega
  subst this
  show (en 0).age < 999
  rw [h]; decide

set_option maxRecDepth 100000 in
set_option maxHeartbeats 4000000 in
theorem linkAwake (w : World) : Calls Try.prog 42 #[] w fun e w' => e = .returned (.bool true) ∧ Below w.heap.size w w' := by
  go_enter Try.func42, Try.ntmps42
  go_wp2_with fail
  refine (policy_any (Own.start w) 9 2 2).mono ?_
  rintro e w1 ⟨g, rfl, ho⟩
  have hb1 := ho.below
  have hread := one_read ho (put_same _ _ _ _)
  clear ho
  go_wp2_with fail
  refine (linkNew_any 20 g 0 1 (.slice none 0 0) (.slice none 0 0) [⟨2, 0, 1, 2⟩] (by decide) w1 (by decide) hread (one_cells 2 2)).mono ?_
  rintro e w2 ⟨gl, γ, en, rfl, hL, hen⟩
  have he0 : en 0 = .tap 2 [] 0 := hen 0 _ rfl
  have hL0 : LAt w1 γ 20 gl (awS en) w2 := hL
  have H0 := Lib.hid hL0
  have HE := Lib.hid he0
  clear hL hL0 hen he0 hread
  go_wp2_with fail
  have hd := linkDo_any H0.out (d := 0) (t := 1) (awLen _) (age_first HE.out) fits0 fits1 0 0 0 33 0 7 0
  rw [aw1 en HE.out] at hd
  refine hd.mono ?_
  rintro e w3 ⟨rfl, γ3, h3, _⟩
  have H3 := Lib.hid h3
  dsimp only
  clear hd h3
  go_wp2_with fail
  have hd := linkDo_any H3.out (d := 1) (t := 1) (awLen _) (age_upd (by decide)) fits1 fits1 0 0 0 33 0 8 0
  rw [aw2] at hd
  refine hd.mono ?_
  rintro e w4 ⟨rfl, γ4, h4, _⟩
  have H4 := Lib.hid h4
  dsimp only
  clear hd h4
  go_wp2_with fail
  have hd := linkDo_any H4.out (d := 0) (t := 1) (awLen _) (age_upd (by decide)) fits0 fits1 0 0 0 34 0 0 0
  rw [aw3] at hd
  refine hd.mono ?_
  rintro e w5 ⟨rfl, γ5, h5, _⟩
  have H5 := Lib.hid h5
  dsimp only
  clear hd h5
  go_wp2_with fail
  have hd := linkDo_any H5.out (d := 1) (t := 5) (awLen _) (age_upd (by decide)) fits1 fits5 0 0 0 34 0 0 0
  rw [aw4 _ (if_pos rfl)] at hd
  refine hd.mono ?_
  rintro e w6 ⟨rfl, γ6, h6, _⟩
  have H6 := Lib.hid h6
  dsimp only
  clear hd h6
  go_wp2_with fail
  have hd := linkDo_any H6.out (d := 1) (t := 5) (awLen _) (age_upd (by decide)) fits1 fits5 0 0 0 31 0 0 0
  rw [aw5] at hd
  refine hd.mono ?_
  rintro e w7 ⟨rfl, γ7, h7, _⟩
  have hbl : Below w.heap.size w w7 := hb1.trans (h7.own.below.mono hb1.size)
  dsimp only
  clear hd h7
  go_wp2_with fail
  go_ret
  exact ⟨rfl, hbl⟩
end Go.Proofs.Ytniiefcbiapieaa
