/- The walk of LinkQuiet. -/
import Derived.Test.YtniiefcbiapieaaNewAll
import Derived.Deep.DeepCutAuto
import Derived.Test.YtniiefcbiapieaaQRel
import Derived.Deep.CutBlock
namespace Go.Proofs.Ytniiefcbiapieaa
open Go.RowKit Go.ChangeMaps

/-- How the round begins. -/
structure QuiSt (w : World) (gl gm gx : Nat) (box : Obj) (ls : List LinkS) (q : Nat) (sl sm : LS) (γ : Nat → Option (Nat × Obj)) (wr : World) : Prop where
  l : LAt w γ 100 gl sl wr
  m : LAt w γ 200 gm sm wr
  x : γ 3 = some (gx, box)
  ls : sl.ls = ls
  rel : QRel sl sm
  age : ∀ i, (sl.en i).age ≤ q
  agem : ∀ i, (sm.en i).age ≤ q
def QuiAt (w : World) (gl gm gx : Nat) (box : Obj) (ls : List LinkS) (len : Nat) (i : Value) (wr : World) : Prop :=
  ∃ (k : Nat) (sl sm : LS) (γ : Nat → Option (Nat × Obj)), i = .int .i64 k ∧ k ≤ len ∧ k ≤ 80 ∧ QuiSt w gl gm gx box ls k sl sm γ wr

theorem QuiSt.keep {w wr wr' : World} {gl gm gx : Nat} {box : Obj} {ls : List LinkS} {q : Nat} {sl sm : LS} {γ γ' : Nat → Option (Nat × Obj)} (h : QuiSt w gl gm gx box ls q sl sm γ wr) (hl : ls.length ≤ 10) (ho : Own w wr' γ') (hk : ∀ k, k = 3 ∨ 100 ≤ k → γ' k = γ k) : QuiSt w gl gm gx box ls q sl sm γ' wr' := by
  have e := h.ls
  have e2 := h.rel.ls
  refine ⟨LinksAt.keep h.l ho fun k hk' => hk k (by omega), LinksAt.keep h.m ho fun k hk' => hk k (by omega), (hk 3 (by omega)).trans h.x, h.ls, h.rel, h.age, h.agem⟩

set_option maxRecDepth 100000 in
set_option maxHeartbeats 16000000 in
theorem linkQuiet_walk (D S : Option Addr) (dn dc sn sc : Nat) (A : Option Addr) (len cap : Nat) (A1 : Option Addr) (len1 cap1 : Nat) (w : World) (hrows : RowsIn w A len cap linkKinds) (hrows1 : RowsIn w A1 len1 cap1 LAct.kinds) :
    Calls Try.prog 13 #[.agg #[.slice D dn dc, .slice S sn sc, .slice A len cap], .slice A1 len1 cap1] w fun e w' => e = .returned (.bool true) ∧ Below w.heap.size w w' := by
  obtain ⟨hlc, hlm, ls, hls, hLI⟩ := links_in hrows
  have hLI := hLI (rows_nil hrows)
  have hr1 := rows_lacts hrows1
  clear hrows1
  clear hrows
  have hfew := fun w' => few_any D S dn dc sn sc A len cap w' hlc hlm
  rw [← hls] at hfew
  have hl10 : ls.length ≤ 10 := by omega
  clear hls hlc hlm
  go_enter Try.func13, Try.ntmps13
  go_wp2_with fail
  refine (hfew _).mono ?_
  rintro e w1 ⟨rfl, hb⟩
  have hb1 : Below w.heap.size w w1 := ((Below.refl w.heap.size w).alloc (Nat.le_refl _) _).trans (hb.mono (by simp))
  have ho := ((Own.start w).below' hb1).new 3 (.cells #[.slice D dn dc, .slice S sn sc, .slice A ls.length cap] 68)
  have k3 := put_same (fun _ => Option.none) 3 w1.heap.size (.cells #[.slice D dn dc, .slice S sn sc, .slice A ls.length cap] 68)
  have kn : ∀ k, 100 ≤ k → put (fun _ => Option.none) 3 w1.heap.size (.cells #[.slice D dn dc, .slice S sn sc, .slice A ls.length cap] 68) k = none := fun k hk => put_other _ _ _ (by omega)
  clear hb hfew
  go_wp2_with fail
  generalize put (fun _ => Option.none) 3 w1.heap.size _ = γ0 at *
  generalize w1.heap.size = gx at *
  generalize w1.alloc _ = W at *
  have x0 := ho.cell k3 (i := 0) (v := .slice D dn dc) rfl
  have x1 := ho.cell k3 (i := 1) (v := .slice S sn sc) rfl
  have x2 := ho.cell k3 (i := 2) (v := .slice A ls.length cap) rfl
  refine Perm.wp_region_pre [0, 2] [1, 3, 4, 5] (fun w' => w'.cell? ⟨gx, 0, none⟩ = some (.slice D dn dc) ∧ w'.cell? ⟨gx, 1, none⟩ = some (.slice S sn sc) ∧ w'.cell? ⟨gx, 2, none⟩ = some (.slice A ls.length cap)) (by kernel_rfl) (by kernel_rfl) (fun _ _ _ _ _ h => h) (by refine ⟨?_, ?_, ?_⟩ <;> simpa using by assumption) ?_
  repeat
    refine Perm.light_step rfl ?_ (fun w' hS => ?_) ?_
    rotate_left
    · ((try dsimp only at hS); go_simp; try with_reducible rfl)
    simp only [Act.put, List.setIfInBounds_toArray, List.set_cons_zero, List.set_cons_succ]
  refine Perm.light_nil ?_
  refine Perm.tail_call rfl (by rfl) 40 _ _ rfl enters40 #[.agg #[.slice D dn dc, .slice S sn sc, .slice A ls.length cap]] (by rfl) ((linkNew_all 100 _ _ (hLI.below (Nat.le_refl _) ho.drew.below)).mono ?_)
  rintro e w2 ⟨gl, γ1, rfl, hL1, hn1⟩
  have hL2 := LAt.beside hl10 ho.drew hL1 (fun k h1 _ => kn k (by omega))
  have k32 := beside_old (γ1 := γ1) k3
  have kn2 : ∀ k, 200 ≤ k → beside γ0 γ1 k = none := fun k hk => by rw [beside_new (kn k (by omega))]; exact hn1 k (by omega)
  clear hL1 hn1
  generalize beside γ0 γ1 = γ2 at *
  refine ⟨_, rfl, fun _ _ => ⟨(LinksAt.own hL2).cell k32 (i := 0) rfl, (LinksAt.own hL2).cell k32 (i := 1) rfl, (LinksAt.own hL2).cell k32 (i := 2) rfl⟩, ?_⟩
  simp only [Act.put, List.setIfInBounds_toArray, List.set_cons_zero, List.set_cons_succ]
  refine Perm.tail_call rfl (by rfl) 40 _ _ rfl enters40 #[.agg #[.slice D dn dc, .slice S sn sc, .slice A ls.length cap]] (by rfl) ((linkNew_all 200 _ _ (hLI.below (Nat.le_refl _) (LinksAt.own hL2).below)).mono ?_)
  rintro e w3 ⟨gm, γ3, rfl, hL3, hn3⟩
  have hM := LAt.beside hl10 (LinksAt.own hL2) hL3 (fun k h1 _ => kn2 k (by omega))
  have hL := LinksAt.old hL2 (LinksAt.own hL3)
  have k33 := beside_old (γ1 := γ3) k32
  clear hL3 hn3 hL2 kn kn2 k32
  generalize beside γ2 γ3 = γ4 at *
  refine ⟨_, rfl, no_need (by kernel_rfl), ?_⟩
  simp only [Act.put, List.setIfInBounds_toArray, List.set_cons_zero, List.set_cons_succ]
  repeat
    refine Perm.tail_pure rfl (by rfl) ?_ (fun w' => ?_) ?_
    rotate_left
    · (go_simp; try with_reducible rfl)
    simp only [Act.put, List.setIfInBounds_toArray, List.set_cons_zero, List.set_cons_succ]
  refine Perm.tail_nil ?_
  have hD : QuiAt w gl gm gx (polO D S dn dc sn sc A ls.length cap) ls len1 (.int .i64 0) w3 := ⟨0, initS ls, initS ls, γ4, rfl, by omega, by omega, ⟨hL, hM, k33, rfl, QRel.refl _, fun i => by rw [initS_age]; omega, fun i => by rw [initS_age]; omega⟩⟩
  have HD := Lib.hid hD
  clear hD hL hM k33 x0 x1 x2 ho k3 hb1
  go_wp2_with fail
  go_loopw [8] (fun i wr => QuiAt w gl gm gx (polO D S dn dc sn sc A ls.length cap) ls len1 i wr) (fun i _ => len1 - (intOf i).toNat)
  case atStart => exact HD.out
  case round =>
    clear HD
    obtain ⟨k, sl, sm, γ5, rfl, hk1, hk2, hst⟩ := hrel
    have HS5 := Lib.hid hst
    clear hst
    by_cases hlt : k < len1
    · by_cases h80 : k < 80
      · rcases hr1 with h0 | ⟨b, off, f, rfl, hlc, hm, hcell⟩
        · omega
        obtain ⟨hat, hd, ht⟩ := hcell k hlt
        have hat1 := hat.below (Nat.le_refl _) (LinksAt.own HS5.out.l).below
        obtain ⟨q0, q1, q2, q3, q4, q5, q6, q7, q8, q9⟩ := hat1
        generalize hx : f k = x at *
        clear hcell hat hx
        have ho1 := (LinksAt.own HS5.out.l).new 11 x.obj
        have H1 := Lib.hid (HS5.out.keep hl10 ho1 fun k hk => put_other _ _ _ (by omega))
        have hx7 : put γ5 11 wr.heap.size x.obj 11 = some (wr.heap.size, x.obj) := put_same _ _ _ _
        obtain ⟨dom, task, gone, xk, xdm, xpk, xop, xa, xb, xv⟩ := x
        obtain ⟨r0, r1, r2, r3, r4, r5, r6, r7, r8, r9⟩ := LAct.of_own ho1 hx7
        unfold LAct.obj at *
        dsimp only at *
        generalize put γ5 11 _ _ = γ6 at *
        have HX := Lib.hid hx7
        clear hx7 ho1
        by_cases hbel : xop ≤ 29 ∨ xop = 33
        · obtain ⟨y1, y2, y3, sl', sm', hRl, hRm, hrel', h33⟩ := H1.out.rel.below (LAt.kinds H1.out.l) (d := dom) (t := task) (a := xa) (b := xb) (v := xv) hbel
          have hdo := linkDo_any H1.out.l (by rw [H1.out.ls]; exact hl10) (fun i _ => by have := H1.out.age i; omega) hd ht xk xdm xpk xop xa xb xv
          rw [hRl] at hdo
          have hA1 := doR_ls sl dom task xop xa xb xv
          have hA2 := doR_age sl dom task xop xa xb xv
          rw [hRl] at hA1 hA2
          have hA3 := doR_age sm dom task xop xa xb xv
          rw [hRm] at hA3
          have HA := Lib.hid (And.intro hA1 (And.intro hA2 hA3))
          have HRm := Lib.hid hRm
          have HREL := Lib.hid hrel'
          have H33 := Lib.hid h33
          clear hRl hRm hrel' hA1 hA2 hA3 h33
          have hcase : xop ≤ 29 ∧ (xop == 33) = false ∧ Hid (xop ≤ 29) ∨ decide (xop ≤ 29) = false ∧ (xop == 33) = true ∧ Hid (y2 = 0 ∧ y3 = 0) := by
            rcases hbel with h | h
            · exact .inl ⟨h, by rw [beq_eq_false_iff_ne]; omega, h⟩
            · exact .inr ⟨by simp; omega, by simpa using h, H33.out h⟩
          clear hbel H33
          rcases hcase with ⟨h29, b33, hz⟩ | ⟨h29, b33, hz⟩
          all_goals
            go_wp2_with fail
            refine hdo.mono ?_
            rintro e w5 ⟨rfl, γ7, h7, hk7⟩
            (try dsimp only at h7 ⊢)
            have hx7 := (hk7 11 (by omega)).trans HX.out
            obtain ⟨r0, r1, r2, r3, r4, r5, r6, r7, r8, r9⟩ := LAct.of_own (x := ⟨dom, task, gone, xk, xdm, xpk, _, xa, xb, xv⟩) (LinksAt.own h7) hx7
            have h7m : LAt w γ7 200 gm sm w5 := LinksAt.keep H1.out.m (LinksAt.own h7) fun k hk => hk7 k (by have := H1.out.ls; have := H1.out.rel.ls; omega)
            have hdo2 := linkDo_any h7m (by rw [H1.out.rel.ls, H1.out.ls]; exact hl10) (fun i _ => by have := H1.out.agem i; omega) hd ht xk xdm xpk xop xa xb xv
            rw [HRm.out] at hdo2
            have H7 := Lib.hid h7
            have HK7 := Lib.hid hk7
            clear hdo h7 hk7 h7m
            try dsimp only
            go_wp2_with fail
            refine hdo2.mono ?_
            rintro e w6 ⟨rfl, γ8, h8, hk8⟩
            (try dsimp only at h8 ⊢)
            have hrel' : QuiAt w gl gm gx (polO D S dn dc sn sc A ls.length cap) ls len1 (.int .i64 (↑(k + 1) : Int)) w6 := by
              refine ⟨k + 1, sl', sm', γ8, rfl, by omega, by omega, ⟨LinksAt.keep H7.out (LinksAt.own h8) (fun k hk => hk8 k (by rw [show sl'.ls = ls from HA.out.1.trans H1.out.ls] at hk; omega)), h8, (hk8 3 (by omega)).trans ((HK7.out 3 (by omega)).trans H1.out.x), HA.out.1.trans H1.out.ls, HREL.out, fun i => ?_, fun i => ?_⟩⟩
              · have a1 : (sl'.en i).age ≤ (sl.en i).age + 1 := HA.out.2.1 i
                have a2 := H1.out.age i
                omega
              · have a1 : (sm'.en i).age ≤ (sm.en i).age + 1 := HA.out.2.2 i
                have a2 := H1.out.agem i
                omega
            have HRR := Lib.hid hrel'
            have hx8 := (hk8 11 (by omega)).trans hx7
            have p6 := (LinksAt.own h8).cell hx8 (i := 6) rfl
            have n1 : (y1 != y1) = false := by simp
            have n2 : (y2 != y2) = false := by simp
            have n3 : (y3 != y3) = false := by simp
            clear hdo2 h8 hk8 hrel' hx7 hx8
            first
              | (obtain ⟨rfl, rfl⟩ := hz.out
                 go_wp2_with fail
                 go_roundw
                 case rel => exact HRR.out
                 case measure => simp [intOf]; omega)
              | (go_wp2_with fail
                 go_roundw
                 case rel => exact HRR.out
                 case measure => simp [intOf]; omega)
        · have b33 : (xop == 33) = false := by rw [beq_eq_false_iff_ne]; omega
          have h29 : 29 < xop := by omega
          have hb29 : decide (xop ≤ 29) = false := by simpa using h29
          have hrel' := H1.out.rel.above (d := dom) (t := task) (a := xa) (b := xb) (v := xv) h29 (by omega)
          clear hbel
          have hdo := linkDo_any H1.out.l (by rw [H1.out.ls]; exact hl10) (fun i _ => by have := H1.out.age i; omega) hd ht xk xdm xpk xop xa xb xv
          have hA1 := doR_ls sl dom task xop xa xb xv
          have hA2 := doR_age sl dom task xop xa xb xv
          generalize doR sl dom task xop xa xb xv = R at *
          obtain ⟨y1, y2, y3, sl'⟩ := R
          have HA := Lib.hid (And.intro hA1 hA2)
          have HREL := Lib.hid hrel'
          clear hA1 hA2 hrel'
          go_wp2_with fail
          refine hdo.mono ?_
          rintro e w5 ⟨rfl, γ7, h7, hk7⟩
          (try dsimp only at h7 ⊢)
          have hrel' : QuiAt w gl gm gx (polO D S dn dc sn sc A ls.length cap) ls len1 (.int .i64 (↑(k + 1) : Int)) w5 := by
            refine ⟨k + 1, sl', sm, γ7, rfl, by omega, by omega, ⟨h7, LinksAt.keep H1.out.m (LinksAt.own h7) (fun k hk => hk7 k (by have := H1.out.ls; have := H1.out.rel.ls; omega)), (hk7 3 (by omega)).trans H1.out.x, HA.out.1.trans H1.out.ls, HREL.out, fun i => ?_, fun i => Nat.le_succ_of_le (H1.out.agem i)⟩⟩
            have a1 : (sl'.en i).age ≤ (sl.en i).age + 1 := HA.out.2 i
            have a2 := H1.out.age i
            omega
          have HRR := Lib.hid hrel'
          clear hdo h7 hk7 hrel'
          go_wp2_with fail
          go_roundw
          case rel => exact HRR.out
          case measure => simp [intOf]; omega
      · obtain rfl : k = 80 := by omega
        have hl80 : (80 : Int) < len1 := by omega
        clear hlt h80 hk1 hk2 hr1
        go_wp2_with fail
        refine (linkAwake _).mono ?_
        rintro e w9 ⟨rfl, hb9⟩
        go_wp2_with fail
        go_ret
        exact ⟨rfl, ((LinksAt.own HS5.out.l).below' hb9).below⟩
    · obtain rfl : k = len1 := by omega
      go_wp2_with fail
      refine (linkAwake _).mono ?_
      rintro e w9 ⟨rfl, hb9⟩
      go_wp2_with fail
      go_ret
      exact ⟨rfl, ((LinksAt.own HS5.out.l).below' hb9).below⟩
end Go.Proofs.Ytniiefcbiapieaa
