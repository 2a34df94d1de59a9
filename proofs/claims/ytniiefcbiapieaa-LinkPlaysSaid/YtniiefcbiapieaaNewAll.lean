/- link.New, whatever the links' slice is. -/
import Derived.Test.YtniiefcbiapieaaFew
import Derived.Test.YtniiefcbiapieaaPerm
namespace Go.Proofs.Ytniiefcbiapieaa
open Go.RowKit Go.ChangeMaps

set_option maxHeartbeats 1000000 in
set_option maxRecDepth 20000 in
theorem clone_zero {w0 w : World} {γ : Nat → Option (Nat × Obj)} (hs : Own w0 w γ) (t : Nat) (ad : Addr) (cap : Nat) :
    Calls Try.prog 57 #[.slice (some ad) 0 cap] w (cloned w0 γ t 0 []) := by
  obtain ⟨i0, hi, hz0, hz1, hz2⟩ := info_parts Try.info78
  have ho1 := hs.new t (.cells #[] 78)
  have hbase := hs.below.size
  have hs1 : SliceAt (put γ t w.heap.size (.cells #[] 78)) t 78 4 (.slice (some ⟨w.heap.size, 0, none⟩) 0 0) 0 [] := ⟨rfl, .inr ⟨_, 0, _, rfl, put_same _ _ _ _, Nat.le_refl _, by omega, rfl, rfl⟩⟩
  have hown := hs1.owns ho1
  have hbin := eq66_some ad 0 cap w
  go_enter Try.func57, Try.ntmps57
  go_wp2_with (at_builtin; refine wpList_append_own_at _ rfl (.tmp 5) (.tmp 6) 66 rfl w0.heap.size 78 i0 (.agg #[.int .i64 0, .int .i64 0, .int .i64 0, .int .i64 0]) 4 32 Try.underlying66 hi hz0 hz1 hz2 rfl (by decide) _ _ _ rfl hown ad 0 cap [] rfl rfl (fun j u h => by simp at h) (fun u h => by simp at h) ?k4 ?k5 ?k6 ?_)
  case k4 => unfold maxLen; omega
  case k5 => omega
  case k6 => simp; omega
  intro v' w2 hown1 hgrow hnn hat
  have hown2 : w2.ownsRow w0.heap.size 78 4 v' (0 + 0) ([] ++ []) := hown1
  obtain ⟨γ1, ho2, hs2, hk2⟩ := own_append ho1 hs1 rfl hown2 hgrow (by simpa using hat)
  have hfin : cloned w0 γ t 0 [] (.returned v') w2 := ⟨v', γ1, rfl, ho2, hs2, fun k hk => by rw [hk2 k hk, put_other _ _ _ hk]⟩
  clear hown1 hown2 hgrow hnn hat hown hs1 ho1 hk2 hs2 ho2
  go_wp2_with fail
  go_ret
  exact hfin

set_option maxRecDepth 100000 in
set_option maxHeartbeats 2000000 in
theorem linkNew_zero (b : Nat) (ad : Addr) (cap : Nat) (dv sv : Value) (w : World) :
    Calls Try.prog 40 #[.agg #[dv, sv, .slice (some ad) 0 cap]] w (newNil w b) := by
  go_enter Try.func40, Try.ntmps40
  go_wp2_with fail
  have hs := (Own.start w).new (b + 4) (.cells #[dv, sv, .slice (some ad) 0 cap] 68)
  refine (clone_zero hs (b + 2) ad cap).mono ?_
  rintro e w1 ⟨v, γ1, rfl, ho, hsl, hk⟩
  obtain ⟨A1, cap1, rfl, hcap1⟩ := hsl.form
  have ho2 := (ho.new (b + 1) (.map #[] 0)).new b (.cells #[.slice A1 0 cap1, .slice none 0 0, .map (some w1.heap.size)] 108)
  have e2 : (w1.alloc (.map #[] 0)).heap.size = w1.heap.size + 1 := by simp
  rw [e2] at ho2
  have hL : LinksAt w (put (put γ1 (b + 1) w1.heap.size (.map #[] 0)) b (w1.heap.size + 1) (.cells #[.slice A1 0 cap1, .slice none 0 0, .map (some w1.heap.size)] 108)) b (w1.heap.size + 1) [] (fun _ => .tap 1 [] 0) (fun _ _ => none) ((w1.alloc (.map #[] 0)).alloc (.cells #[.slice A1 0 cap1, .slice none 0 0, .map (some w1.heap.size)] 108)) := by
    refine ⟨ho2, .slice A1 0 cap1, .slice none 0 0, w1.heap.size, #[], 0, [], put_same _ _ _ _, ?_, MapFn.nil, ?_, SliceAt.nil _ _ _ _, fun i l h => by simp at h⟩
    · rw [put_other _ _ _ (by omega), put_same]
    · exact hsl.keep (by rw [put_other _ _ _ (by omega), put_other _ _ _ (by omega)])
  have hbx : (put γ1 (b + 1) w1.heap.size (.map #[] 0)) (b + 4) = some (w.heap.size, .cells #[dv, sv, .slice (some ad) 0 cap] 68 (0, 0)) := by rw [put_other _ _ _ (by omega), hk _ (by omega), put_same]
  have hc2 := (ho.new (b + 1) (.map #[] 0)).cell hbx (i := 2) (v := .slice (some ad) 0 cap) rfl
  have hc3 := ho2.cell ((put_other _ _ _ (by omega)).trans hbx) (i := 2) (v := .slice (some ad) 0 cap) rfl
  generalize put (put γ1 (b + 1) w1.heap.size (.map #[] 0)) b (w1.heap.size + 1) (.cells #[.slice A1 0 cap1, .slice none 0 0, .map (some w1.heap.size)] 108) = γ2 at *
  have hmk := run_makeMap105 w1
  clear hs ho hsl hk ho2 hbx
  go_wp2_with fail
  go_loopw [15] (fun i wr => NilAt w b (w1.heap.size + 1) i wr) (fun i _ => 0)
  case atStart => exact ⟨rfl, _, hL⟩
  case round =>
    obtain ⟨rfl, γ3, hL3⟩ := hrel
    go_wp2_with fail
    go_ret
    exact ⟨_, γ3, rfl, hL3⟩

def initEn (ls : List LinkS) : Nat → EndS := fun j => match ls[j]? with
  | some l => initEnd l
  | none => .tap 1 [] 0
def initS (ls : List LinkS) : LS := ⟨ls, initEn ls, fun _ _ => none⟩

/-- What New makes, at the tags from b on. -/
def newAt (w : World) (b : Nat) (ls : List LinkS) (e : Ending) (w' : World) : Prop :=
  ∃ gl γ, e = .returned (.pointer (some ⟨gl, 0, none⟩)) ∧ LAt w γ b gl (initS ls) w' ∧ ∀ k, (k < b ∨ b + 30 ≤ k) → γ k = none

def only (γ : Nat → Option (Nat × Obj)) (b : Nat) : Nat → Option (Nat × Obj) := fun k => if b ≤ k ∧ k < b + 30 then γ k else none
theorem only_in (γ : Nat → Option (Nat × Obj)) {b k : Nat} (h1 : b ≤ k) (h2 : k < b + 30) : only γ b k = γ k := if_pos ⟨h1, h2⟩
theorem only_out (γ : Nat → Option (Nat × Obj)) {b k : Nat} (h : k < b ∨ b + 30 ≤ k) : only γ b k = none := if_neg (by omega)

theorem newAt_of {w w' : World} {γ : Nat → Option (Nat × Obj)} {b gl : Nat} {ls : List LinkS} {en : Nat → EndS} (h10 : ls.length ≤ 10) (h : LinksAt w γ b gl ls en (fun _ _ => none) w') (hen : ∀ (j : Nat) l, ls[j]? = some l → en j = initEnd l) : newAt w b ls (.returned (.pointer (some ⟨gl, 0, none⟩))) w' := by
  have ho : Own w w' (only γ b) := h.own.less fun k x hk => by
    unfold only at hk
    split at hk
    · exact hk
    · cases hk
  refine ⟨gl, only γ b, rfl, ?_, fun k hk => only_out γ hk⟩
  have h2 := h.keep ho (fun k hk => only_in γ (by omega) (by omega))
  obtain ⟨_, lv, ev, gm, es, clock, vs, a0, a1, a2, a3, a4, a5⟩ := h2
  refine ⟨ho, lv, ev, gm, es, clock, vs, a0, a1, a2, a3, a4, fun i l hi => ?_⟩
  have := a5 i l hi
  rw [hen i l hi] at this
  show EndAt _ _ _ _ (initEn ls i)
  unfold initEn
  have hi' : ls[i]? = some l := hi
  simp only [hi']
  exact this

/-- The links of a policy in memory: none, or a row. -/
def LinksIn (w : World) (A : Option Addr) (cap : Nat) (ls : List LinkS) : Prop :=
  ls.length ≤ 10 ∧ (ls = [] ∧ (A = none → cap = 0) ∨ ∃ pb off, A = some ⟨pb, off, none⟩ ∧ ls.length ≤ cap ∧ ∀ (j : Nat) (u : Value), (linkVals ls)[j]? = some u → w.cell? ((⟨pb, off, none⟩ : Addr).add j) = some u)

theorem LinksIn.below {w w' : World} {A : Option Addr} {cap : Nat} {ls : List LinkS} (h : LinksIn w A cap ls) {n : Nat} (hn : w.heap.size ≤ n) (hb : Below n w w') : LinksIn w' A cap ls := by
  refine ⟨h.1, ?_⟩
  rcases h.2 with h | ⟨pb, off, h1, h2, h3⟩
  · exact .inl h
  · exact .inr ⟨pb, off, h1, h2, fun j u hj => (hb.cell (Nat.lt_of_lt_of_le (World.block_lt_of_cell? w _ (h3 j u hj)) hn)).trans (h3 j u hj)⟩

theorem linkNew_all (b : Nat) (dv sv : Value) {w : World} {A : Option Addr} {cap : Nat} {ls : List LinkS} (h : LinksIn w A cap ls) : Calls Try.prog 40 #[.agg #[dv, sv, .slice A ls.length cap]] w (newAt w b ls) := by
  rcases h.2 with ⟨rfl, hA⟩ | ⟨pb, off, rfl, h2, h3⟩
  · cases A with
    | none =>
      rw [hA rfl]
      refine (linkNew_nil b dv sv w).mono ?_
      rintro e w' ⟨gl, γ, rfl, hL⟩
      exact newAt_of h.1 hL (fun j l hj => by simp at hj)
    | some ad =>
      refine (linkNew_zero b ad cap dv sv w).mono ?_
      rintro e w' ⟨gl, γ, rfl, hL⟩
      exact newAt_of h.1 hL (fun j l hj => by simp at hj)
  · refine (linkNew_any b pb off cap dv sv ls h.1 w h2 h3 (links_one ls)).mono ?_
    rintro e w' ⟨gl, γ, en, rfl, hL, hen⟩
    exact newAt_of h.1 hL hen

theorem LAt.beside {w0 w w' : World} {γ γ1 : Nat → Option (Nat × Obj)} {b gl : Nat} {s : LS} (h10 : s.ls.length ≤ 10) (h0 : Own w0 w γ) (h1 : LAt w γ1 b gl s w') (hn : ∀ k, b ≤ k → k < b + 30 → γ k = none) : LAt w0 (beside γ γ1) b gl s w' := by
  obtain ⟨ho, lv, ev, gm, es, clock, vs, a0, a1, a2, a3, a4, a5⟩ := h1
  refine ⟨h0.beside ho, lv, ev, gm, es, clock, vs, by rw [beside_new (hn _ (by omega) (by omega))]; exact a0, by rw [beside_new (hn _ (by omega) (by omega))]; exact a1, a2, a3.keep (beside_new (hn _ (by omega) (by omega))), a4.keep (beside_new (hn _ (by omega) (by omega))), fun i l hi => ?_⟩
  have := (List.getElem?_eq_some_iff.1 hi).1
  exact (a5 i l hi).keep (beside_new (hn _ (by omega) (by omega))) (beside_new (hn _ (by omega) (by omega)))

/-- The links of a policy, at most ten. -/
theorem links_in {w : World} {A : Option Addr} {len cap : Nat} (h : RowsIn w A len cap linkKinds) : len ≤ cap ∧ len ≤ 9223372036854775807 ∧ ∃ ls : List LinkS, ls.length = min len 10 ∧ ((A = none → cap = 0) → LinksIn w A cap ls) := by
  rcases rows_links h with ⟨rfl, rfl⟩ | ⟨b, off, f, rfl, h1, h2, h3⟩
  · exact ⟨Nat.le_refl _, by omega, [], rfl, fun h => ⟨by simp, .inl ⟨rfl, h⟩⟩⟩
  · refine ⟨h1, h2, linksTo f (min len 10), linksTo_length _ _, fun _ => ⟨by rw [linksTo_length]; omega, .inr ⟨b, off, rfl, by rw [linksTo_length]; omega, links_read h3 (by omega)⟩⟩⟩
theorem rows_nil {w : World} {A : Option Addr} {len cap : Nat} {ks : List CK} (h : RowsIn w A len cap ks) : A = none → cap = 0 := by
  intro hA
  rcases h with ⟨_, h⟩ | ⟨b, off, h, _⟩
  · exact h
  · rw [hA] at h; cases h

theorem enters40 : enters Try.prog 40 = true := by kernel_rfl

def polO (D S : Option Addr) (dn dc sn sc : Nat) (A : Option Addr) (n cap : Nat) : Obj := .cells #[.slice D dn dc, .slice S sn sc, .slice A n cap] 68

/-! What Do does to ages. -/
theorem mayE_zero {ls : List LinkS} {d op a : Int} (h : mayE ls d op a = 0) : 0 ≤ a ∧ a < ls.length := by
  unfold mayE at h
  by_cases hr : a < 0 ∨ (ls.length : Int) ≤ a
  · rw [if_pos hr] at h; cases h
  · omega
theorem doR_ls (s : LS) (d t op a b v : Int) : (doR s d t op a b v).2.2.2.ls = s.ls := by
  unfold doR
  split
  · rfl
  · split
    · rfl
    · split
      · split <;> rfl
      · split <;> rfl
theorem doR_age (s : LS) (d t op a b v : Int) (i : Nat) : ((doR s d t op a b v).2.2.2.en i).age ≤ (s.en i).age + 1 := by
  unfold doR
  split
  · exact Nat.le_succ _
  · split
    · exact Nat.le_succ _
    · split
      · rename_i z all next he
        split
        · show (updE s.en a.toNat _ i).age ≤ _
          unfold updE
          split
          · rename_i hi; rw [hi, he]; simp [EndS.age]
          · exact Nat.le_succ _
        · show (updE s.en a.toNat _ i).age ≤ _
          unfold updE
          split
          · rename_i hi; rw [hi, he]; simp [EndS.age]
          · exact Nat.le_succ _
      · rename_i c he
        split
        · exact Nat.le_succ _
        · show (updE s.en a.toNat _ i).age ≤ _
          unfold updE
          split
          · rename_i hi; rw [hi, he]; exact c.wS_q op t b v
          · exact Nat.le_succ _
theorem initS_age (ls : List LinkS) (i : Nat) : ((initS ls).en i).age = 0 := by
  show (initEn ls i).age = 0
  unfold initEn
  split
  · unfold initEnd; split <;> rfl
  · rfl
end Go.Proofs.Ytniiefcbiapieaa
