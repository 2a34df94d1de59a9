/- The walk of LinkWhole. -/
import Derived.Test.YtniiefcbiapieaaWhSt
import Derived.Laws.CopyOwn
import Derived.BigRegion
import Derived.Deep.DeepCutAuto
import Derived.Deep.CutBlock
namespace Go.Proofs.Ytniiefcbiapieaa
open Go.RowKit Go.ChangeMaps

set_option maxRecDepth 100000 in
set_option maxHeartbeats 16000000 in
theorem linkWhole_nat (sz : Nat) (hsz : sz < 256) (A : Option Addr) (len cap : Nat) (w : World) (hrows : RowsIn w A len cap LAct.kinds) :
    Calls Try.prog 14 #[.int .u8 sz, .slice A len cap] w fun e w' => e = .returned (.bool true) ∧ Below w.heap.size w w' := by
  have hrows' := rows_lacts hrows
  have hm4 : sz % 4 < 4 := Nat.mod_lt _ (by omega)
  clear hrows
  obtain ⟨n, hn⟩ : ∃ n, n = 1 + sz % 4 := ⟨_, rfl⟩
  have hb : 1 ≤ n ∧ n ≤ 4 := by omega
  have hcl : clampC (n : Int) = n := by unfold clampC; split <;> (try split) <;> omega
  have hsum : (1 + (sz : Int) % 4) = (n : Int) := by omega
  clear hn hm4
  go_enter Try.func14, Try.ntmps14
  go_wp2_with fail
  refine (policy_any (Own.start w) 9 1 (n : Int)).mono ?_
  rintro e w1 ⟨g, rfl, ho⟩
  have hb1 := ho.below
  have hread := one_read ho (put_same _ _ _ _)
  clear ho
  go_wp2_with fail
  refine (linkNew_any 20 g 0 1 (.slice none 0 0) (.slice none 0 0) [⟨1, 0, 1, n⟩] (by show 1 ≤ 10; decide) w1 (by show 1 ≤ 1; decide) hread (one_cells 1 n)).mono ?_
  rintro e w2 ⟨gl, γ, en, rfl, hL, hen⟩
  have he0 : en 0 = .cell (CS.new n) := by rw [← hcl]; exact hen 0 _ rfl
  have HL := Lib.hid hL
  have HE := Lib.hid he0
  have HB1 := Lib.hid hb1
  have hmk := run_make37 n (by omega)
  clear hL hen he0 hread hb1 hcl
  go_upto_region 3 with (fail)
  go_cut [7, 8, 9, 10] (fun v7 v8 v9 v10 wx => Four w1 wx n γ v7 v8 v9 v10)
  case first =>
    as_aux_lemma =>
    have HO := Lib.hid (LinksAt.own HL.out)
    go_region
    all_goals go_wp2_with fail
    all_goals go_meet
    all_goals first
      | (obtain ⟨γ', h, ha, hb', hc, hd, hk⟩ := four_mk HO.out 7 8 9 10 (by omega) (by decide) (by decide) (.cells (madeCells #[.int .i64 0] n) 3 (0, 0)) rfl; exact ⟨_, _, _, _, γ', rfl, rfl, rfl, rfl, h.drew, ha, hb', hc, hd, hk⟩)
      | (obtain ⟨γ', h, ha, hb', hc, hd, hk⟩ := four_mk HO.out 7 8 10 9 (by omega) (by decide) (by decide) (.cells (madeCells #[.int .i64 0] n) 3 (0, 0)) rfl; exact ⟨_, _, _, _, γ', rfl, rfl, rfl, rfl, h.drew, ha, hb', hd, hc, hk⟩)
      | (obtain ⟨γ', h, ha, hb', hc, hd, hk⟩ := four_mk HO.out 7 9 8 10 (by omega) (by decide) (by decide) (.cells (madeCells #[.int .i64 0] n) 3 (0, 0)) rfl; exact ⟨_, _, _, _, γ', rfl, rfl, rfl, rfl, h.drew, ha, hc, hb', hd, hk⟩)
      | (obtain ⟨γ', h, ha, hb', hc, hd, hk⟩ := four_mk HO.out 7 9 10 8 (by omega) (by decide) (by decide) (.cells (madeCells #[.int .i64 0] n) 3 (0, 0)) rfl; exact ⟨_, _, _, _, γ', rfl, rfl, rfl, rfl, h.drew, ha, hd, hb', hc, hk⟩)
      | (obtain ⟨γ', h, ha, hb', hc, hd, hk⟩ := four_mk HO.out 7 10 8 9 (by omega) (by decide) (by decide) (.cells (madeCells #[.int .i64 0] n) 3 (0, 0)) rfl; exact ⟨_, _, _, _, γ', rfl, rfl, rfl, rfl, h.drew, ha, hc, hd, hb', hk⟩)
      | (obtain ⟨γ', h, ha, hb', hc, hd, hk⟩ := four_mk HO.out 7 10 9 8 (by omega) (by decide) (by decide) (.cells (madeCells #[.int .i64 0] n) 3 (0, 0)) rfl; exact ⟨_, _, _, _, γ', rfl, rfl, rfl, rfl, h.drew, ha, hd, hc, hb', hk⟩)
      | (obtain ⟨γ', h, ha, hb', hc, hd, hk⟩ := four_mk HO.out 8 7 9 10 (by omega) (by decide) (by decide) (.cells (madeCells #[.int .i64 0] n) 3 (0, 0)) rfl; exact ⟨_, _, _, _, γ', rfl, rfl, rfl, rfl, h.drew, hb', ha, hc, hd, hk⟩)
      | (obtain ⟨γ', h, ha, hb', hc, hd, hk⟩ := four_mk HO.out 8 7 10 9 (by omega) (by decide) (by decide) (.cells (madeCells #[.int .i64 0] n) 3 (0, 0)) rfl; exact ⟨_, _, _, _, γ', rfl, rfl, rfl, rfl, h.drew, hb', ha, hd, hc, hk⟩)
      | (obtain ⟨γ', h, ha, hb', hc, hd, hk⟩ := four_mk HO.out 8 9 7 10 (by omega) (by decide) (by decide) (.cells (madeCells #[.int .i64 0] n) 3 (0, 0)) rfl; exact ⟨_, _, _, _, γ', rfl, rfl, rfl, rfl, h.drew, hc, ha, hb', hd, hk⟩)
      | (obtain ⟨γ', h, ha, hb', hc, hd, hk⟩ := four_mk HO.out 8 9 10 7 (by omega) (by decide) (by decide) (.cells (madeCells #[.int .i64 0] n) 3 (0, 0)) rfl; exact ⟨_, _, _, _, γ', rfl, rfl, rfl, rfl, h.drew, hd, ha, hb', hc, hk⟩)
      | (obtain ⟨γ', h, ha, hb', hc, hd, hk⟩ := four_mk HO.out 8 10 7 9 (by omega) (by decide) (by decide) (.cells (madeCells #[.int .i64 0] n) 3 (0, 0)) rfl; exact ⟨_, _, _, _, γ', rfl, rfl, rfl, rfl, h.drew, hc, ha, hd, hb', hk⟩)
      | (obtain ⟨γ', h, ha, hb', hc, hd, hk⟩ := four_mk HO.out 8 10 9 7 (by omega) (by decide) (by decide) (.cells (madeCells #[.int .i64 0] n) 3 (0, 0)) rfl; exact ⟨_, _, _, _, γ', rfl, rfl, rfl, rfl, h.drew, hd, ha, hc, hb', hk⟩)
      | (obtain ⟨γ', h, ha, hb', hc, hd, hk⟩ := four_mk HO.out 9 7 8 10 (by omega) (by decide) (by decide) (.cells (madeCells #[.int .i64 0] n) 3 (0, 0)) rfl; exact ⟨_, _, _, _, γ', rfl, rfl, rfl, rfl, h.drew, hb', hc, ha, hd, hk⟩)
      | (obtain ⟨γ', h, ha, hb', hc, hd, hk⟩ := four_mk HO.out 9 7 10 8 (by omega) (by decide) (by decide) (.cells (madeCells #[.int .i64 0] n) 3 (0, 0)) rfl; exact ⟨_, _, _, _, γ', rfl, rfl, rfl, rfl, h.drew, hb', hd, ha, hc, hk⟩)
      | (obtain ⟨γ', h, ha, hb', hc, hd, hk⟩ := four_mk HO.out 9 8 7 10 (by omega) (by decide) (by decide) (.cells (madeCells #[.int .i64 0] n) 3 (0, 0)) rfl; exact ⟨_, _, _, _, γ', rfl, rfl, rfl, rfl, h.drew, hc, hb', ha, hd, hk⟩)
      | (obtain ⟨γ', h, ha, hb', hc, hd, hk⟩ := four_mk HO.out 9 8 10 7 (by omega) (by decide) (by decide) (.cells (madeCells #[.int .i64 0] n) 3 (0, 0)) rfl; exact ⟨_, _, _, _, γ', rfl, rfl, rfl, rfl, h.drew, hd, hb', ha, hc, hk⟩)
      | (obtain ⟨γ', h, ha, hb', hc, hd, hk⟩ := four_mk HO.out 9 10 7 8 (by omega) (by decide) (by decide) (.cells (madeCells #[.int .i64 0] n) 3 (0, 0)) rfl; exact ⟨_, _, _, _, γ', rfl, rfl, rfl, rfl, h.drew, hc, hd, ha, hb', hk⟩)
      | (obtain ⟨γ', h, ha, hb', hc, hd, hk⟩ := four_mk HO.out 9 10 8 7 (by omega) (by decide) (by decide) (.cells (madeCells #[.int .i64 0] n) 3 (0, 0)) rfl; exact ⟨_, _, _, _, γ', rfl, rfl, rfl, rfl, h.drew, hd, hc, ha, hb', hk⟩)
      | (obtain ⟨γ', h, ha, hb', hc, hd, hk⟩ := four_mk HO.out 10 7 8 9 (by omega) (by decide) (by decide) (.cells (madeCells #[.int .i64 0] n) 3 (0, 0)) rfl; exact ⟨_, _, _, _, γ', rfl, rfl, rfl, rfl, h.drew, hb', hc, hd, ha, hk⟩)
      | (obtain ⟨γ', h, ha, hb', hc, hd, hk⟩ := four_mk HO.out 10 7 9 8 (by omega) (by decide) (by decide) (.cells (madeCells #[.int .i64 0] n) 3 (0, 0)) rfl; exact ⟨_, _, _, _, γ', rfl, rfl, rfl, rfl, h.drew, hb', hd, hc, ha, hk⟩)
      | (obtain ⟨γ', h, ha, hb', hc, hd, hk⟩ := four_mk HO.out 10 8 7 9 (by omega) (by decide) (by decide) (.cells (madeCells #[.int .i64 0] n) 3 (0, 0)) rfl; exact ⟨_, _, _, _, γ', rfl, rfl, rfl, rfl, h.drew, hc, hb', hd, ha, hk⟩)
      | (obtain ⟨γ', h, ha, hb', hc, hd, hk⟩ := four_mk HO.out 10 8 9 7 (by omega) (by decide) (by decide) (.cells (madeCells #[.int .i64 0] n) 3 (0, 0)) rfl; exact ⟨_, _, _, _, γ', rfl, rfl, rfl, rfl, h.drew, hd, hb', hc, ha, hk⟩)
      | (obtain ⟨γ', h, ha, hb', hc, hd, hk⟩ := four_mk HO.out 10 9 7 8 (by omega) (by decide) (by decide) (.cells (madeCells #[.int .i64 0] n) 3 (0, 0)) rfl; exact ⟨_, _, _, _, γ', rfl, rfl, rfl, rfl, h.drew, hc, hd, hb', ha, hk⟩)
      | (obtain ⟨γ', h, ha, hb', hc, hd, hk⟩ := four_mk HO.out 10 9 8 7 (by omega) (by decide) (by decide) (.cells (madeCells #[.int .i64 0] n) 3 (0, 0)) rfl; exact ⟨_, _, _, _, γ', rfl, rfl, rfl, rfl, h.drew, hd, hc, hb', ha, hk⟩)
  case rest =>
    obtain ⟨g7, g8, g9, g10, γ1, rfl, rfl, rfl, rfl, ho1, k7, k8, k9, k10, hk⟩ := hcut
    have hmk2 := run_make84 n (by omega)
    have ho2 := ho1.new 11 (.cells (madeCells #[.bool false] n) 4)
    have hS : WhSt w1 gl n g7 g8 g9 g10 wc.heap.size 0 ⟨CS.new n, fun _ _ => none, List.replicate n 0, List.replicate n 0, List.replicate n 0, List.replicate n 0, List.replicate n false, false⟩ en (put γ1 11 wc.heap.size (.cells (madeCells #[.bool false] n) 4)) (wc.alloc (.cells (madeCells #[.bool false] n) 4)) := by
      have hml : n ≤ maxLen := by unfold maxLen; omega
      have hi := Inv.init hb
      refine ⟨LinksAt.keep HL.out ho2 fun k h => by rw [put_other _ _ _ (by omega)]; exact hk k (by omega), HE.out, ?_, ?_, ?_, ?_, ?_, ⟨hi.ok, hi.cs, hi.now, hi.told, by simp, rfl, fun l q h => by cases h⟩, Nat.le_refl _⟩
      · exact SliceAt.made _ _ _ _ hml (by rw [put_other _ _ _ (by decide)]; exact k7)
      · exact SliceAt.made _ _ _ _ hml (by rw [put_other _ _ _ (by decide)]; exact k8)
      · exact SliceAt.made _ _ _ _ hml (by rw [put_other _ _ _ (by decide)]; exact k9)
      · exact SliceAt.made _ _ _ _ hml (by rw [put_other _ _ _ (by decide)]; exact k10)
      · exact SliceAt.madeB _ _ _ _ hml (put_same _ _ _ _)
    have HS := Lib.hid hS
    clear hS ho2 ho1 k7 k8 k9 k10 hk hmk
    go_wp2_with fail
    generalize wc.heap.size = g11 at *
    generalize put γ1 11 _ _ = γ2 at *
    generalize wc.alloc _ = wS at *
    go_loopw [12, 13] (fun rdv i wr => WhAt w1 gl n g7 g8 g9 g10 g11 len rdv i wr) (fun _ i _ => len - (intOf i).toNat)
    case atStart => exact ⟨0, _, _, _, rfl, rfl, by omega, by omega, HS.out⟩
    case round =>
      clear HS HL HE
      obtain ⟨k, s, en, γ, rfl, rfl, hk1, hk2, hst⟩ := hrel
      have HS := Lib.hid hst
      clear hst
      by_cases hlt : k < len
      · by_cases h80 : k < 80
        · rcases hrows' with h0 | ⟨b, off, f, rfl, hlc, hm, hcell⟩
          · omega
          obtain ⟨hat, hd, ht⟩ := hcell k hlt
          have hat1 := hat.below (Nat.le_refl _) (HB1.out.trans ((LinksAt.own HS.out.l).below.mono HB1.out.size))
          obtain ⟨q0, q1, q2, q3, q4, q5, q6, q7, q8, q9⟩ := hat1
          have lb := World.block_lt_of_cell? wr _ q0
          dsimp only at lb
          generalize hx : f k = x at *
          clear hcell hat hx
          obtain ⟨dom, task, gone, xk, xdm, xpk, xop, xa, xb, xv⟩ := x
          dsimp only at *
          have ho1 := (LinksAt.own HS.out.l).new 12 (.cells #[.int .i64 xk, .int .i64 xdm, .int .i64 xpk, .int .i64 xop, .int .i64 0, .int .i64 xb, .int .i64 xv] 74)
          have k12 := put_same γ 12 wr.heap.size (.cells #[.int .i64 xk, .int .i64 xdm, .int .i64 xpk, .int .i64 xop, .int .i64 0, .int .i64 xb, .int .i64 xv] 74)
          have H1 := Lib.hid (HS.out.keep ho1 fun k hk => put_other _ _ _ (by omega))
          generalize put γ 12 _ _ = γ3 at *
          have HX := Lib.hid k12
          clear ho1 k12
          by_cases hpar : dom.tmod 2 = 0
          · have hpart : (dom.tmod 2 == 0) = true := by simpa using hpar
            clear hpar
            obtain ⟨en', hRw, hen'⟩ := wh_do_w n en s HS.out.en xop xb xv
            have hdo := linkDo_any H1.out.l (d := 0) (t := 1) (by show 1 ≤ 10; decide) (wh_age H1.out.en (by have := HS.out.q; omega)) fits0 fits1 xk xdm xpk xop 0 xb xv
            rw [hRw] at hdo
            have hf' := s.wr_f xop xb xv
            have hi' := HS.out.inv.wr (by have := HS.out.q; omega) xop xb xv
            have hq' := s.wr_q xop xb xv
            have hq2 : (s.wr xop xb xv).c.q ≤ k + 1 := by have := HS.out.q; omega
            obtain ⟨r3, r4, r5, r6⟩ := s.wr_rest xop xb xv
            by_cases hE : s.wE xop xb = 0
            · rw [hE] at hdo
              by_cases h28 : xop = 28
              · subst h28
                obtain ⟨s1, s2, s3⟩ := s.wr_set (v := xv) hE
                have hcs : (s.c.s : Int) = n := by have := HS.out.inv.cs; omega
                have h2 := s.wr_told (op := 28) (b := xb) (v := xv) (fun h => absurd h.1 (by decide))
                have s4 : xb < n := by omega
                have hmk : ∀ γ5 w5, LAt w1 γ5 20 gl (whS n en' s.f) w5 → (∀ k, k < 20 → γ5 k = γ3 k) → (∃ u, w5.cell? ⟨g7, xb.toNat, none⟩ = some u) ∧ w5.frozen? ⟨g7, xb.toNat, none⟩ = false ∧ WhAt w1 gl n g7 g8 g9 g10 g11 len (.bool s.rd) (.int .i64 (↑(k + 1) : Int)) (w5.setCell ⟨g7, xb.toNat, none⟩ (.int .i64 xv)) ∧ (w5.setCell ⟨g7, xb.toNat, none⟩ (.int .i64 xv)).cell? ⟨wr.heap.size, 3, none⟩ = some (.int .i64 28) := by
                  intro γ5 w5 h5 hk5
                  obtain ⟨m1, m2, γ6, m3, m4⟩ := H1.out.setNow (s' := s.wr 28 xb xv) (by rw [hf']; exact h5) hk5 hen' hi' hq2 (by omega) s1 h2 r3 r4 r5
                  exact ⟨m1, m2, ⟨k + 1, s.wr 28 xb xv, en', γ6, rfl, by rw [r6], by omega, by omega, m3⟩, (LinksAt.own m3.l).cell ((m4 12 (by decide)).trans ((hk5 12 (by decide)).trans HX.out)) (i := 3) rfl⟩
                have HM := Lib.hid hmk
                have HX2 := Lib.hid s2
                clear hmk r3 r4 r5 r6 hq2 hq' hi' hf' hRw hen' s1 h2 hE hcs
                go_wp2_with fail
                refine hdo.mono ?_
                rintro e w5 ⟨rfl, γ5, h5, hk5⟩
                (try dsimp only at h5 ⊢)
                have hx5 := (hk5 12 (by omega)).trans HX.out
                have e3 := (LinksAt.own h5).cell hx5 (i := 3) (v := .int .i64 28) rfl
                have e5 := (LinksAt.own h5).cell hx5 (i := 5) (v := .int .i64 xb) rfl
                have e6 := (LinksAt.own h5).cell hx5 (i := 6) (v := .int .i64 xv) rfl
                obtain ⟨⟨u7, m1⟩, m2, m3, m4⟩ := HM.out γ5 w5 h5 fun k h => hk5 k (.inl h)
                have HR := Lib.hid m3
                clear hdo h5 hk5 hx5 m3
                go_wp2_with fail
                go_roundw
                case rel => exact HR.out
                case measure => simp [intOf]; omega
              · by_cases h29 : xop = 29
                · subst h29
                  have h1 := s.wr_now (op := 29) (b := xb) (v := xv) (fun h => absurd h.1 (by decide))
                  have h2 := s.wr_copy (v := xv) hE
                  have hmk : ∀ γ5 w5, LAt w1 γ5 20 gl (whS n en' s.f) w5 → (∀ k, k < 20 → γ5 k = γ3 k) → ∃ cur2 : Array Value, w5.heap[g8]? = some (.cells cur2 3 (0, 0)) ∧ 0 + (ints s.now).length ≤ cur2.size ∧ (ints s.now).length = Nat.min n n ∧ (∀ u, u ∈ ints s.now → u.oneCell' = true) ∧
                      (∀ (j : Nat) (u : Value), (ints s.now)[j]? = some u → w5.cell? ((⟨g7, 0, none⟩ : Addr).add j) = some u) ∧
                      ∀ arr : Array Value, arr = (cur2.toList.take 0 ++ (ints s.now ++ cur2.toList.drop (0 + (ints s.now).length))).toArray → WhAt w1 gl n g7 g8 g9 g10 g11 len (.bool s.rd) (.int .i64 (↑(k + 1) : Int)) (w5.setRow g8 arr) := by
                    intro γ5 w5 h5 hk5
                    obtain ⟨cur2, m1, m2, m3, m4, m5, m6⟩ := copy_to (LinksAt.own h5) hb.1 (H1.out.now.keep (hk5 _ (by decide))) (H1.out.told.keep (hk5 _ (by decide)))
                    refine ⟨cur2, m1, m2, m3, m4, m5, fun arr harr => ?_⟩
                    obtain ⟨γ6, ho6, hs6, hk6⟩ := m6 arr harr
                    refine ⟨k + 1, s.wr 29 xb xv, en', γ6, rfl, by rw [r6], by omega, by omega, ⟨by rw [hf']; exact LinksAt.keep h5 ho6 fun k hk' => hk6 k (by omega), hen', ?_, ?_, ?_, ?_, ?_, hi', hq2⟩⟩
                    · rw [h1]; exact (H1.out.now.keep (hk5 _ (by decide))).keep (hk6 _ (by decide))
                    · rw [h2]; exact hs6
                    · rw [r3]; exact (H1.out.want.keep (hk5 _ (by decide))).keep (hk6 _ (by decide))
                    · rw [r4]; exact (H1.out.got.keep (hk5 _ (by decide))).keep (hk6 _ (by decide))
                    · rw [r5]; exact (H1.out.has.keep (hk5 _ (by decide))).keep (hk6 _ (by decide))
                  have HM := Lib.hid hmk
                  clear hmk r3 r4 r5 r6 hq2 hq' hi' hf' hRw hen' h1 h2 hE h28
                  go_wp2_with fail
                  refine hdo.mono ?_
                  rintro e w5 ⟨rfl, γ5, h5, hk5⟩
                  (try dsimp only at h5 ⊢)
                  have hx5 := (hk5 12 (by omega)).trans HX.out
                  have e3 := (LinksAt.own h5).cell hx5 (i := 3) (v := .int .i64 29) rfl
                  have e5 := (LinksAt.own h5).cell hx5 (i := 5) (v := .int .i64 xb) rfl
                  have e6 := (LinksAt.own h5).cell hx5 (i := 6) (v := .int .i64 xv) rfl
                  obtain ⟨cur2, m1, m2, m3, m4, m5, m6⟩ := HM.out γ5 w5 h5 fun k h => hk5 k (.inl h)
                  have hx4 : (Try.prog.info? 3).map (·.size) = some 1 := by kernel_rfl
                  have HM6 := Lib.hid m6
                  generalize ints s.now = cs at *
                  clear hdo h5 hk5 hx5 m6
                  go_upto_region 16 with (fail)
                  go_wp2_with (refine wpList_copy_own rfl (.tmp 101) (.tmp 102) 37 37 rfl 3 Try.underlying37 hx4 g8 0 n n ⟨g7, 0, none⟩ n n rfl rfl cur2 3 m1 cs m3 m5 m2 m4 ?_)
                  go_wp2_with fail
                  go_roundw
                  case rel => exact HM6.out _ (by have hcl : cs.length = n := by simpa using m3
                                                  simp [hcl])
                  case measure => simp [intOf]; omega
                · have b28 : (xop == 28) = false := by simpa using h28
                  have b29 : (xop == 29) = false := by simpa using h29
                  have h1 := s.wr_now (op := xop) (b := xb) (v := xv) fun h => h28 h.1
                  have h2 := s.wr_told (op := xop) (b := xb) (v := xv) fun h => h29 h.1
                  have hmk : ∀ γ5 w5, LAt w1 γ5 20 gl (whS n en' s.f) w5 → (∀ k, k < 20 → γ5 k = γ3 k) → WhAt w1 gl n g7 g8 g9 g10 g11 len (.bool s.rd) (.int .i64 (↑(k + 1) : Int)) w5 := by
                    intro γ5 w5 h5 hk5
                    exact ⟨k + 1, s.wr xop xb xv, en', γ5, rfl, by rw [r6], by omega, by omega, H1.out.link (by rw [hf']; exact h5) hk5 hen' hi' hq2 h1 h2 r3 r4 r5⟩
                  have HM := Lib.hid hmk
                  clear hmk r3 r4 r5 r6 hq2 hq' hi' hf' hRw hen' h1 h2 hE h28 h29
                  go_wp2_with fail
                  refine hdo.mono ?_
                  rintro e w5 ⟨rfl, γ5, h5, hk5⟩
                  (try dsimp only at h5 ⊢)
                  have hx5 := (hk5 12 (by omega)).trans HX.out
                  have e3 := (LinksAt.own h5).cell hx5 (i := 3) (v := .int .i64 xop) rfl
                  have e5 := (LinksAt.own h5).cell hx5 (i := 5) (v := .int .i64 xb) rfl
                  have e6 := (LinksAt.own h5).cell hx5 (i := 6) (v := .int .i64 xv) rfl
                  have HR := Lib.hid (HM.out γ5 w5 h5 fun k h => hk5 k (.inl h))
                  clear hdo h5 hk5 hx5
                  go_wp2_with fail
                  go_roundw
                  case rel => exact HR.out
                  case measure => simp [intOf]; omega
            · have hEf : (s.wE xop xb == 0) = false := by simpa using hE
              have h1 := s.wr_now (op := xop) (b := xb) (v := xv) fun h => hE h.2
              have h2 := s.wr_told (op := xop) (b := xb) (v := xv) fun h => hE h.2
              have hmk : ∀ γ5 w5, LAt w1 γ5 20 gl (whS n en' s.f) w5 → (∀ k, k < 20 → γ5 k = γ3 k) → WhAt w1 gl n g7 g8 g9 g10 g11 len (.bool s.rd) (.int .i64 (↑(k + 1) : Int)) w5 := by
                intro γ5 w5 h5 hk5
                exact ⟨k + 1, s.wr xop xb xv, en', γ5, rfl, by rw [r6], by omega, by omega, H1.out.link (by rw [hf']; exact h5) hk5 hen' hi' hq2 h1 h2 r3 r4 r5⟩
              have HM := Lib.hid hmk
              clear hmk r3 r4 r5 r6 hq2 hq' hi' hf' hRw hen' h1 h2 hE
              generalize s.wE xop xb = ee at *
              go_wp2_with fail
              refine hdo.mono ?_
              rintro e w5 ⟨rfl, γ5, h5, hk5⟩
              (try dsimp only at h5 ⊢)
              have hx5 := (hk5 12 (by omega)).trans HX.out
              have e3 := (LinksAt.own h5).cell hx5 (i := 3) (v := .int .i64 xop) rfl
              have e5 := (LinksAt.own h5).cell hx5 (i := 5) (v := .int .i64 xb) rfl
              have e6 := (LinksAt.own h5).cell hx5 (i := 6) (v := .int .i64 xv) rfl
              have HR := Lib.hid (HM.out γ5 w5 h5 fun k h => hk5 k (.inl h))
              clear hdo h5 hk5 hx5
              go_wp2_with fail
              go_roundw
              case rel => exact HR.out
              case measure => simp [intOf]; omega
          · have hpart : (dom.tmod 2 == 0) = false := by simpa using hpar
            clear hpar
            have hRw := wh_do_r n en s HS.out.en xop xb xv
            have hdo := linkDo_any H1.out.l (d := 1) (t := 9) (by show 1 ≤ 10; decide) (wh_age H1.out.en (by have := HS.out.q; omega)) fits1 (by unfold Fits; rfl) xk xdm xpk xop 0 xb xv
            rw [hRw] at hdo
            have hq2 : s.c.q ≤ k + 1 := by have := HS.out.q; omega
            by_cases h30 : xop = 30
            · as_aux_lemma =>
              subst h30
              have hmk : ∀ γ5 w5, LAt w1 γ5 20 gl (whS n en (s.rF 30 xb)) w5 → (∀ k, k < 20 → γ5 k = γ3 k) → ∃ cur2 : Array Value, w5.heap[g9]? = some (.cells cur2 3 (0, 0)) ∧ 0 + (ints s.told).length ≤ cur2.size ∧ (ints s.told).length = Nat.min n n ∧ (∀ u, u ∈ ints s.told → u.oneCell' = true) ∧
                  (∀ (j : Nat) (u : Value), (ints s.told)[j]? = some u → w5.cell? ((⟨g8, 0, none⟩ : Addr).add j) = some u) ∧
                  ∀ arr : Array Value, arr = (cur2.toList.take 0 ++ (ints s.told ++ cur2.toList.drop (0 + (ints s.told).length))).toArray → WhMid w1 gl n g7 g8 g9 g10 g11 (wr.heap.size, .cells #[.int .i64 xk, .int .i64 xdm, .int .i64 xpk, .int .i64 30, .int .i64 0, .int .i64 xb, .int .i64 xv] 74 (0, 0)) s (s.rF 30 xb) en 0 (w5.setRow g9 arr) :=
                fun γ5 w5 h5 hk5 => H1.out.toMid hb.1 HX.out h5 hk5
              have hout : ∀ wr', WhMid w1 gl n g7 g8 g9 g10 g11 (wr.heap.size, .cells #[.int .i64 xk, .int .i64 xdm, .int .i64 xpk, .int .i64 30, .int .i64 0, .int .i64 xb, .int .i64 xv] 74 (0, 0)) s (s.rF 30 xb) en n wr' → WhAt w1 gl n g7 g8 g9 g10 g11 len (.bool (s.rE 30 xb == 0)) (.int .i64 (↑(k + 1) : Int)) wr' := by
                intro wr' h
                have h9 := h.fin HS.out.en HS.out.inv hq2 (by omega : k + 1 ≤ len) (by omega)
                rwa [show decide (s.rE 30 xb = 0) = (s.rE 30 xb == 0) by by_cases e : s.rE 30 xb = 0 <;> simp [e]] at h9
              have HM := Lib.hid hmk
              have HO := Lib.hid hout
              clear hmk hout hRw hq2
              generalize s.rE 30 xb = ee at *
              generalize s.rN 30 xb = en1 at *
              go_wp2_with fail
              refine hdo.mono ?_
              rintro e w5 ⟨rfl, γ5, h5, hk5⟩
              (try dsimp only at h5 ⊢)
              have hx5 := (hk5 12 (by omega)).trans HX.out
              have e3 := (LinksAt.own h5).cell hx5 (i := 3) (v := .int .i64 30) rfl
              obtain ⟨cur2, m1, m2, m3, m4, m5, m6⟩ := HM.out γ5 w5 h5 fun k h => hk5 k (.inl h)
              have hx4 : (Try.prog.info? 3).map (·.size) = some 1 := by kernel_rfl
              have HM6 := Lib.hid m6
              generalize ints s.told = cs at *
              clear hdo h5 hk5 hx5 m6
              go_upto_region 20 with (fail)
              go_wp2_with (refine wpList_copy_own rfl (.tmp 116) (.tmp 117) 37 37 rfl 3 Try.underlying37 hx4 g9 0 n n ⟨g8, 0, none⟩ n n rfl rfl cur2 3 m1 cs m3 m5 m2 m4 ?_)
              have h0 := HM6.out (cs ++ List.drop n cur2.toList).toArray (by have hcl : cs.length = n := by simpa using m3
                                                                             simp [hcl])
              have H0 := Lib.hid h0
              clear h0 m1 m2 m3 m4 m5
              generalize w5.setRow g9 (cs ++ List.drop n cur2.toList).toArray = w6 at H0 ⊢
              go_wp2_with fail
              try rw [decide_eq_true (show (k : Int) < 80 by omega)]
              go_loopw [21] (fun i wr' => WhStrike w1 gl n g7 g8 g9 g10 g11 (wr.heap.size, .cells #[.int .i64 xk, .int .i64 xdm, .int .i64 xpk, .int .i64 30, .int .i64 0, .int .i64 xb, .int .i64 xv] 74 (0, 0)) s (s.rF 30 xb) en i wr') (fun i _ => n - (intOf i).toNat)
              case atStart => exact ⟨0, rfl, by omega, H0.out⟩
              case round =>
                obtain ⟨j, rfl, hj, hst⟩ := hrel
                by_cases hlt : j < n
                · obtain ⟨⟨_, s1⟩, s2, s3⟩ := hst.step hlt
                  have HW := Lib.hid s3
                  clear hst s3
                  go_wp2_with fail
                  go_roundw
                  case rel => exact ⟨j + 1, by go_num, by omega, HW.out⟩
                  case measure => simp [intOf]; omega
                · obtain rfl : j = n := by omega
                  obtain ⟨γ6, ho6, hx6⟩ := hst.own
                  have e6 := ho6.cell hx6 (i := 3) (v := .int .i64 30) rfl
                  have HW := Lib.hid (HO.out _ hst)
                  clear hst ho6 hx6
                  go_wp2_with fail
                  go_roundw
                  case rel => exact HW.out
                  case measure => simp [intOf]; omega
            by_cases h31 : xop = 31
            · subst h31
              by_cases hE : s.rE 31 xb = 0
              · obtain ⟨i1, i2, i3, _⟩ := HS.out.inv.word hE
                rw [hE] at hdo
                have hcs : (s.c.s : Int) = n := by have := HS.out.inv.cs; omega
                have hR : s.read 31 xb = { s with got := s.got.set xb.toNat (s.rN 31 xb), has := s.has.set xb.toNat true } := by
                  unfold Wh.read
                  rw [if_neg (by decide), if_pos rfl, if_pos ⟨hE, i2, by omega⟩]
                obtain ⟨v, hv⟩ : ∃ v, v = s.rN 31 xb := ⟨_, rfl⟩
                rw [← hv] at hR hdo
                have hmk : ∀ γ5 w5, LAt w1 γ5 20 gl (whS n en (s.rF 31 xb)) w5 → (∀ k, k < 20 → γ5 k = γ3 k) → (∃ u, w5.cell? ⟨g10, xb.toNat, none⟩ = some u) ∧ w5.frozen? ⟨g10, xb.toNat, none⟩ = false ∧ (∃ u, w5.cell? ⟨g11, xb.toNat, none⟩ = some u) ∧ w5.frozen? ⟨g11, xb.toNat, none⟩ = false ∧
                    (∃ u, (w5.setCell ⟨g10, xb.toNat, none⟩ (.int .i64 v)).cell? ⟨g11, xb.toNat, none⟩ = some u) ∧ (w5.setCell ⟨g10, xb.toNat, none⟩ (.int .i64 v)).frozen? ⟨g11, xb.toNat, none⟩ = false ∧
                    (∃ u, (w5.setCell ⟨g11, xb.toNat, none⟩ (.bool true)).cell? ⟨g10, xb.toNat, none⟩ = some u) ∧ (w5.setCell ⟨g11, xb.toNat, none⟩ (.bool true)).frozen? ⟨g10, xb.toNat, none⟩ = false ∧
                    (WhAt w1 gl n g7 g8 g9 g10 g11 len (.bool true) (.int .i64 (↑(k + 1) : Int)) ((w5.setCell ⟨g10, xb.toNat, none⟩ (.int .i64 v)).setCell ⟨g11, xb.toNat, none⟩ (.bool true)).drew ∧ ((w5.setCell ⟨g10, xb.toNat, none⟩ (.int .i64 v)).setCell ⟨g11, xb.toNat, none⟩ (.bool true)).cell? ⟨wr.heap.size, 3, none⟩ = some (.int .i64 31)) := by
                  intro γ5 w5 h5 hk5
                  obtain ⟨a1, a2, b1, b2, c1, c2, d1, d2, r1, r2⟩ := set_two (v := v) (LinksAt.own h5) (by decide) (by omega : xb.toNat < n) (H1.out.got.keep (hk5 10 (by decide))) (H1.out.has.keep (hk5 11 (by decide)))
                  have hff := s.read_f 31 xb
                  rw [← hff] at h5
                  refine ⟨a1, a2, b1, b2, c1, c2, d1, d2, ?_⟩
                  · obtain ⟨γ6, o6, sa, sb, kk⟩ := r1
                    have hst : WhSt w1 gl n g7 g8 g9 g10 g11 (k + 1) (s.read 31 xb) en γ6 _ := ⟨LinksAt.keep h5 o6.drew fun k hk' => kk k (by omega) (by omega), by rw [s.read_c]; exact HS.out.en, by rw [hR]; exact (H1.out.now.keep (hk5 _ (by decide))).keep (kk _ (by decide) (by decide)), by rw [hR]; exact (H1.out.told.keep (hk5 _ (by decide))).keep (kk _ (by decide) (by decide)), by rw [hR]; exact (H1.out.want.keep (hk5 _ (by decide))).keep (kk _ (by decide) (by decide)), by rw [hR]; exact sa, by rw [hR]; exact sb, HS.out.inv.read 31 xb, by rw [s.read_c]; exact hq2⟩
                    exact ⟨⟨k + 1, s.read 31 xb, en, γ6, rfl, by rw [hR]; exact (congrArg Value.bool i1).symm, by omega, by omega, hst⟩, o6.cell ((kk 12 (by decide) (by decide)).trans ((hk5 12 (by decide)).trans HX.out)) (i := 3) rfl⟩
                have HM := Lib.hid hmk
                have hxn : xb < n := by omega
                clear hmk hq2 hRw hR hE h30 hcs i3 hv
                rw [i1]
                go_wp2_with fail
                refine hdo.mono ?_
                rintro e w5 ⟨rfl, γ5, h5, hk5⟩
                (try dsimp only at h5 ⊢)
                have hx5 := (hk5 12 (by omega)).trans HX.out
                have e3 := (LinksAt.own h5).cell hx5 (i := 3) (v := .int .i64 31) rfl
                have e5 := (LinksAt.own h5).cell hx5 (i := 5) (v := .int .i64 xb) rfl
                obtain ⟨⟨_, a1⟩, a2, ⟨_, b1⟩, b2, ⟨_, c1⟩, c2, ⟨_, d1⟩, d2, r1, r2⟩ := HM.out γ5 w5 h5 fun k h => hk5 k (.inl h)
                have R1 := Lib.hid r1
                clear hdo h5 hk5 hx5 r1
                go_upto_region 28 with (fail)
                go_region
                all_goals go_wp2_with fail
                all_goals go_roundw
                case rel => exact R1.out
                case measure => simp [intOf]; omega
              · have hEf : (s.rE 31 xb == 0) = false := by simpa using hE
                have h1 : s.read 31 xb = s := by unfold Wh.read; rw [if_neg (by decide), if_pos rfl, if_neg fun h => hE h.1]
                have hmk : ∀ γ5 w5, LAt w1 γ5 20 gl (whS n en (s.rF 31 xb)) w5 → (∀ k, k < 20 → γ5 k = γ3 k) → WhAt w1 gl n g7 g8 g9 g10 g11 len (.bool s.rd) (.int .i64 (↑(k + 1) : Int)) w5 := by
                  intro γ5 w5 h5 hk5
                  have hff := s.read_f 31 xb
                  rw [h1] at hff
                  rw [← hff] at h5
                  exact ⟨k + 1, s, en, γ5, rfl, rfl, by omega, by omega, H1.out.link h5 hk5 HS.out.en HS.out.inv hq2 rfl rfl rfl rfl rfl⟩
                have HM := Lib.hid hmk
                clear hmk hq2 hRw h1
                clear hE h30
                generalize s.rE 31 xb = ee at *
                generalize s.rN 31 xb = en1 at *
                go_wp2_with fail
                refine hdo.mono ?_
                rintro e w5 ⟨rfl, γ5, h5, hk5⟩
                (try dsimp only at h5 ⊢)
                have hx5 := (hk5 12 (by omega)).trans HX.out
                have e3 := (LinksAt.own h5).cell hx5 (i := 3) (v := .int .i64 31) rfl
                have e5 := (LinksAt.own h5).cell hx5 (i := 5) (v := .int .i64 xb) rfl
                have HR := Lib.hid (HM.out γ5 w5 h5 fun k h => hk5 k (.inl h))
                clear hdo h5 hk5 hx5
                go_wp2_with fail
                go_roundw
                case rel => exact HR.out
                case measure => simp [intOf]; omega
            by_cases h32 : xop = 32
            · as_aux_lemma =>
              subst h32
              have hR := HS.out.inv.read 32 xb
              have hfin := HS.out.inv.fin xb
              have hmk : ∀ γ5 w5, LAt w1 γ5 20 gl (whS n en (s.rF 32 xb)) w5 → (∀ k, k < 20 → γ5 k = γ3 k) → WhSt w1 gl n g7 g8 g9 g10 g11 (k + 1) (s.read 32 xb) en γ5 w5 := by
                intro γ5 w5 h5 hk5
                have hff := s.read_f 32 xb
                rw [← hff] at h5
                exact H1.out.link h5 hk5 (by rw [s.read_c]; exact HS.out.en) hR (by rw [s.read_c]; exact hq2) rfl rfl rfl rfl rfl
              have HM := Lib.hid hmk
              have HF := Lib.hid hfin
              have hbad : ((s.rE 32 xb == 11) == s.rd) = false := by
                rcases hfin with ⟨h1, h2⟩ | ⟨h1, h2, _⟩
                · rw [h1, h2]; rfl
                · rw [h1, show (s.rE 32 xb == 11) = false by simpa using h2]; rfl
              clear hmk hq2 hRw hR hfin h30 h31
              generalize hee : s.rE 32 xb = ee at *
              generalize s.rN 32 xb = en1 at *
              go_wp2_with fail
              refine hdo.mono ?_
              rintro e w5 ⟨rfl, γ5, h5, hk5⟩
              (try dsimp only at h5 ⊢)
              have hx5 := (hk5 12 (by omega)).trans HX.out
              have e3 := (LinksAt.own h5).cell hx5 (i := 3) (v := .int .i64 32) rfl
              have e5 := (LinksAt.own h5).cell hx5 (i := 5) (v := .int .i64 xb) rfl
              have H5 := Lib.hid (HM.out γ5 w5 h5 fun k h => hk5 k (.inl h))
              clear hdo h5 hk5 hx5
              have hout : ∀ wr : World, WhSt w1 gl n g7 g8 g9 g10 g11 (k + 1) (s.read 32 xb) en γ5 wr → WhAt w1 gl n g7 g8 g9 g10 g11 len (.bool false) (.int .i64 (↑(k + 1) : Int)) wr := fun wr h => ⟨k + 1, s.read 32 xb, en, γ5, rfl, rfl, by omega, by omega, h⟩
              have HO := Lib.hid hout
              clear hout
              go_wp2_with fail
              try rw [decide_eq_true (show (k : Int) < 80 by omega)]
              clear hbad
              generalize (ee == 11) = b11
              go_loopw [22] (fun i wr => WhIn w1 gl n g7 g8 g9 g10 g11 (k + 1) (s.read 32 xb) en γ5 i wr) (fun i _ => n - (intOf i).toNat)
              case atStart => exact ⟨0, rfl, by omega, H5.out⟩
              case round =>
                obtain ⟨j, rfl, hj, hst⟩ := hrel
                have HW := Lib.hid hst
                clear hst
                by_cases hz : ee = 0
                · subst hz
                  by_cases hlt : j < n
                  · have HW2 := HW.out
                    obtain ⟨_, _, hv1, hc1⟩ := HW2.has.at_ (LinksAt.own HW2.l) hlt
                    cases hv1
                    obtain ⟨_, _, hv2, hc2⟩ := HW2.got.at_ (LinksAt.own HW2.l) hlt
                    cases hv2
                    obtain ⟨_, _, hv3, hc3⟩ := HW2.want.at_ (LinksAt.own HW2.l) hlt
                    cases hv3
                    rw [bools_get _ _ (by have := HW2.has.1; rw [bools_length] at this; omega)] at hc1
                    rw [ints_get _ _ (by have := HW2.got.1; simp [ints] at this; omega)] at hc2
                    rw [ints_get _ _ (by have := HW2.want.1; simp [ints] at this; omega)] at hc3
                    have hx : (s.read 32 xb).has.getD j false = true → (s.read 32 xb).got.getD j 0 = (s.read 32 xb).want.getD j 0 := by
                      rcases HF.out with ⟨_, h2⟩ | ⟨_, _, h3⟩
                      · omega
                      · exact h3 rfl j hlt
                    clear HW2
                    generalize (s.read 32 xb).has.getD j false = bj at hc1 hx
                    generalize (s.read 32 xb).want.getD j 0 = z2 at hc3 hx
                    generalize (s.read 32 xb).got.getD j 0 = z1 at hc2 hx
                    cases bj
                    · clear hx
                      go_wp2_with fail
                      go_quiet (fail)
                      go_wp2_with fail
                      go_roundw
                      case rel => exact ⟨j + 1, by go_num, by omega, HW.out.keep ((LinksAt.own HW.out.l).drewN _) fun _ _ => rfl⟩
                      case measure => simp [intOf]; omega
                    · have hx' := hx rfl
                      subst hx'
                      clear hx
                      go_wp2_with fail
                      go_quiet (fail)
                      go_wp2_with fail
                      go_roundw
                      case rel => exact ⟨j + 1, by go_num, by omega, HW.out.keep ((LinksAt.own HW.out.l).drewN _) fun _ _ => rfl⟩
                      case measure => simp [intOf]; omega
                  · obtain rfl : j = n := by omega
                    go_wp2_with fail
                    go_roundw
                    case rel => exact HO.out _ HW.out
                    case measure => simp [intOf]; omega
                · have hzf : (ee == 0) = false := by simpa using hz
                  clear hz
                  have hlt : (decide ((j : Int) < n) && (ee == 0)) = false := by rw [hzf]; simp
                  go_wp2_with fail
                  all_goals go_roundw
                  all_goals first | exact HO.out _ HW.out | (simp [intOf]; omega)
            as_aux_lemma =>
            have b30 : (xop == 30) = false := by simpa using h30
            have b31 : (xop == 31) = false := by simpa using h31
            have b32 : (xop == 32) = false := by simpa using h32
            have h1 : s.read xop xb = s := by unfold Wh.read; rw [if_neg h30, if_neg h31, if_neg h32]
            have hmk : ∀ γ5 w5, LAt w1 γ5 20 gl (whS n en (s.rF xop xb)) w5 → (∀ k, k < 20 → γ5 k = γ3 k) → WhAt w1 gl n g7 g8 g9 g10 g11 len (.bool s.rd) (.int .i64 (↑(k + 1) : Int)) w5 := by
              intro γ5 w5 h5 hk5
              have hff := s.read_f xop xb
              rw [h1] at hff
              rw [← hff] at h5
              exact ⟨k + 1, s, en, γ5, rfl, rfl, by omega, by omega, H1.out.link h5 hk5 HS.out.en HS.out.inv hq2 rfl rfl rfl rfl rfl⟩
            have HM := Lib.hid hmk
            clear hmk hq2 hRw h1
            clear h30 h31 h32
            generalize s.rE xop xb = ee at *
            generalize s.rN xop xb = en1 at *
            go_wp2_with fail
            refine hdo.mono ?_
            rintro e w5 ⟨rfl, γ5, h5, hk5⟩
            (try dsimp only at h5 ⊢)
            have hx5 := (hk5 12 (by omega)).trans HX.out
            have e3 := (LinksAt.own h5).cell hx5 (i := 3) (v := .int .i64 xop) rfl
            have e5 := (LinksAt.own h5).cell hx5 (i := 5) (v := .int .i64 xb) rfl
            have HR := Lib.hid (HM.out γ5 w5 h5 fun k h => hk5 k (.inl h))
            clear hdo h5 hk5 hx5
            go_wp2_with fail
            go_roundw
            case rel => exact HR.out
            case measure => simp [intOf]; omega
        · obtain rfl : k = 80 := by omega
          have hl80 : (80 : Int) < len := by omega
          clear hlt h80 hk1 hk2 hrows'
          go_wp2_with fail
          refine (linkAwake _).mono ?_
          rintro e w9 ⟨rfl, hb9⟩
          go_wp2_with fail
          go_ret
          exact ⟨rfl, HB1.out.trans (((LinksAt.own HS.out.l).below' hb9).below.mono HB1.out.size)⟩
      · obtain rfl : k = len := by omega
        go_wp2_with fail
        refine (linkAwake _).mono ?_
        rintro e w9 ⟨rfl, hb9⟩
        go_wp2_with fail
        go_ret
        exact ⟨rfl, HB1.out.trans (((LinksAt.own HS.out.l).below' hb9).below.mono HB1.out.size)⟩
end Go.Proofs.Ytniiefcbiapieaa
