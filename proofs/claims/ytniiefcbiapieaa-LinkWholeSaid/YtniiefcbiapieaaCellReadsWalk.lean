/- The walk of CellReads. -/
import Derived.Test.YtniiefcbiapieaaReadsPure
import Derived.Test.YtniiefcbiapieaaActs
import Derived.Test.YtniiefcbiapieaaCelAwake
import Derived.Deep.DeepCutAuto
namespace Go.Proofs.Ytniiefcbiapieaa
open Go.RowKit

theorem WAt.init {w0 w1 : World} {γ : Nat → Option (Nat × Obj)} {gp n : Nat} (ho : Own w0 w1 γ) (hc : γ 1 = some (gp, cellO (CS.new n))) (hn : 1 ≤ n ∧ n ≤ 4) :
    ∃ γ', WAt w0 γ' gp n (.slice (some ⟨w1.heap.size + 1, 0, none⟩) n n) (.slice (some ⟨w1.heap.size, 0, none⟩) n n) ⟨CS.new n, List.replicate n 0, List.replicate n 0⟩ ((w1.alloc (.cells (madeCells #[.int .i64 0] n) 3)).alloc (.cells (madeCells #[.int .i64 0] n) 3)) := by
  have h2 := (ho.new 10 (.cells (madeCells #[.int .i64 0] n) 3)).new 11 (.cells (madeCells #[.int .i64 0] n) 3)
  have e2 : (w1.alloc (.cells (madeCells #[.int .i64 0] n) 3)).heap.size = w1.heap.size + 1 := by simp
  rw [e2] at h2
  refine ⟨_, h2, by rw [put_other _ _ _ (by decide), put_other _ _ _ (by decide)]; exact hc, SliceAt.made _ _ _ _ (by unfold maxLen; omega) (put_same _ _ _ _), SliceAt.made _ _ _ _ (by unfold maxLen; omega) (by rw [put_other _ _ _ (by decide), put_same]), CS.Ok.new hn, rfl⟩

theorem Inv.init {n : Nat} (hn : 1 ≤ n ∧ n ≤ 4) : (WS.mk (CS.new n) (List.replicate n 0) (List.replicate n 0)).Inv n := by
  refine ⟨CS.Ok.new hn, rfl, ?_, fun _ => rfl⟩
  show List.replicate n 0 = [0, 0, 0, 0].take n
  have : n = 1 ∨ n = 2 ∨ n = 3 ∨ n = 4 := by omega
  rcases this with h | h | h | h <;> rw [h] <;> rfl

theorem WAt.keep' {w0 w w' : World} {γ γ' : Nat → Option (Nat × Obj)} {gp n : Nat} {nv tv : Value} {s : WS} (h : WAt w0 γ gp n nv tv s w) (ho : Own w0 w' γ') (hk : ∀ k, k < 12 → γ' k = γ k) : WAt w0 γ' gp n nv tv s w' :=
  ⟨ho, (hk 1 (by omega)).trans h.c, h.now.keep (hk 11 (by omega)), h.told.keep (hk 10 (by omega)), h.ok, h.cs⟩

def RAt (w : World) (gp n gN gT len : Nat) (i : Value) (wr : World) : Prop :=
  ∃ (k : Nat) (s : WS) (γ : Nat → Option (Nat × Obj)), i = .int .i64 k ∧ k ≤ len ∧ k ≤ 40 ∧ s.c.q ≤ k ∧ s.Inv n ∧ WAt w γ gp n (.slice (some ⟨gN, 0, none⟩) n n) (.slice (some ⟨gT, 0, none⟩) n n) s wr
def REnd (w : World) (gp n gN gT : Nat) (wr : World) : Prop :=
  ∃ (s : WS) (γ : Nat → Option (Nat × Obj)), s.c.q ≤ 40 ∧ s.Inv n ∧ WAt w γ gp n (.slice (some ⟨gN, 0, none⟩) n n) (.slice (some ⟨gT, 0, none⟩) n n) s wr

/-- Amid the reading: a is how many of the acts between were done, k how many words were read. -/
structure Mid (w : World) (gp n gN gT : Nat) (wv : Value) (told : List Int) (c0 : CS) (k a : Nat) (gv : Value) (gl : List Int) (s : WS) (γ : Nat → Option (Nat × Obj)) (wr : World) : Prop where
  inv : s.Inv n
  q : s.c.q ≤ 40 + a
  rd : ReadInv c0 k s.c gl
  at_ : WAt w γ gp n (.slice (some ⟨gN, 0, none⟩) n n) (.slice (some ⟨gT, 0, none⟩) n n) s wr
  want : SliceAt γ 20 3 1 wv n (ints told)
  got : SliceAt γ 21 3 1 gv k (ints gl)

def MidAt (w : World) (gp n gN gT : Nat) (wv : Value) (told : List Int) (c0 : CS) (len2 : Nat) (gv a' i : Value) (wr : World) : Prop :=
  ∃ (k a : Nat) (gl : List Int) (s : WS) (γ : Nat → Option (Nat × Obj)), a' = .int .i64 a ∧ i = .int .i64 k ∧ k ≤ n ∧ a ≤ len2 ∧ a ≤ 3 * k ∧ Mid w gp n gN gT wv told c0 k a gv gl s γ wr
def InAt (w : World) (gp n gN gT : Nat) (wv : Value) (told : List Int) (c0 : CS) (len2 k : Nat) (gv : Value) (gl : List Int) (a' j : Value) (wr : World) : Prop :=
  ∃ (a m : Nat) (s : WS) (γ : Nat → Option (Nat × Obj)), a' = .int .i64 a ∧ j = .int .i64 m ∧ m ≤ 3 ∧ a ≤ len2 ∧ a ≤ 3 * k + m ∧ Mid w gp n gN gT wv told c0 k a gv gl s γ wr
def InEnd (w : World) (gp n gN gT : Nat) (wv : Value) (told : List Int) (c0 : CS) (len2 k : Nat) (gv : Value) (gl : List Int) (a' : Value) (wr : World) : Prop :=
  ∃ (a : Nat) (s : WS) (γ : Nat → Option (Nat × Obj)), a' = .int .i64 a ∧ a ≤ len2 ∧ a ≤ 3 * k + 3 ∧ Mid w gp n gN gT wv told c0 k a gv gl s γ wr
def EqAt (w : World) (m : Nat) (γ : Nat → Option (Nat × Obj)) (i : Value) (wr : World) : Prop := ∃ k : Nat, i = .int .i64 k ∧ k ≤ m ∧ Own w wr γ

set_option maxRecDepth 100000 in
set_option maxHeartbeats 8000000 in
theorem cellReads_nat (sz : Nat) (hsz : sz < 256) (A : Option Addr) (len cap : Nat) (A2 : Option Addr) (len2 cap2 : Nat) (w : World) (hrows : RowsIn w A len cap [.int .u8, .int .i64, .int .i64, .int .i64]) (hrows2 : RowsIn w A2 len2 cap2 [.int .u8, .int .i64, .int .i64, .int .i64]) :
    Calls Try.prog 9 #[.int .u8 sz, .slice A len cap, .slice A2 len2 cap2] w fun e w' => e = .returned (.bool true) ∧ Below w.heap.size w w' := by
  have hs0 := Own.start w
  have hm4 : sz % 4 < 4 := Nat.mod_lt _ (by omega)
  have hrows' := rows_acts hrows
  have hrows2' := rows_acts hrows2
  clear hrows hrows2
  obtain ⟨n, hn⟩ : ∃ n, n = 1 + sz % 4 := ⟨_, rfl⟩
  have hb : 1 ≤ n ∧ n ≤ 4 := by omega
  have hcl : clampC (n : Int) = n := by unfold clampC; split <;> (try split) <;> omega
  have hsum : (1 + (sz : Int) % 4) = (n : Int) := by omega
  clear hn hm4
  go_enter Try.func9, Try.ntmps9
  go_wp2_with fail
  refine (cellNew_any hs0 1 n).mono ?_
  rintro e w1 ⟨gp, rfl, hs1⟩
  rw [hcl] at hs1
  obtain ⟨γ1, hw1⟩ := WAt.init hs1 (put_same _ _ _ _) hb
  have hi1 := Inv.init hb
  have hq0 : (WS.mk (CS.new n) (List.replicate n 0) (List.replicate n 0)).c.q = 0 := rfl
  generalize WS.mk (CS.new n) (List.replicate n 0) (List.replicate n 0) = s1 at *
  clear hs1 hcl hs0
  go_upto_block 0 with (refine wpList_make37 _ rfl _ _ rfl n (by omega) .i64 .i64 _ _ rfl rfl rfl rfl ?_)
  generalize (w1.alloc (.cells (madeCells #[.int .i64 0] n) 3)).alloc (.cells (madeCells #[.int .i64 0] n) 3) = w2 at *
  obtain ⟨gN, hgN⟩ : ∃ g, g = w1.heap.size + 1 := ⟨_, rfl⟩
  obtain ⟨gT, hgT⟩ : ∃ g, g = w1.heap.size := ⟨_, rfl⟩
  rw [← hgN, ← hgT] at hw1
  rw [← hgN, ← hgT]
  clear hgN hgT
  go_cut [11] (fun _ wx => REnd w gp n gN gT wx)
  case rest =>
    obtain ⟨s, γ, hq, hinv, hw⟩ := hcut
    clear hw1 hi1 hq0
    obtain ⟨i0, hi, hz0, hz1, hz2⟩ := info_parts Try.info3
    have hlenT : (ints s.told).length = n * 1 := hw.told.1
    have h64 : ∀ u ∈ ints s.told, u.oneCell' = true := by
      intro u hu
      simp only [ints, List.mem_map] at hu
      obtain ⟨x, _, rfl⟩ := hu
      rfl
    have ho1 := hw.own.new 20 (.cells #[] 3)
    have hw1 : WAt w (put γ 20 wc.heap.size (.cells #[] 3)) gp n (.slice (some ⟨gN, 0, none⟩) n n) (.slice (some ⟨gT, 0, none⟩) n n) s (wc.alloc (.cells #[] 3)) := hw.keep' ho1 fun k hk => put_other _ _ _ (by omega)
    have hbase := hw.own.below.size
    have hs1 : SliceAt (put γ 20 wc.heap.size (.cells #[] 3)) 20 3 1 (.slice (some ⟨wc.heap.size, 0, none⟩) 0 0) 0 [] := ⟨rfl, .inr ⟨_, 0, _, rfl, put_same _ _ _ _, Nat.le_refl _, by omega, rfl, rfl⟩⟩
    have hown := hs1.owns ho1
    obtain ⟨gT', capT, curT, hvT, _, _, _, _, _, _, hcc⟩ := hw1.told.cells_at ho1 hb.1
    cases hvT
    obtain ⟨told, htold⟩ : ∃ t, t = s.told := ⟨_, rfl⟩
    obtain ⟨news, hnews⟩ : ∃ t, t = ints s.told := ⟨_, rfl⟩
    rw [← hnews] at hlenT h64 hcc
    have HNEWS : Hid (news = ints s.told) := hnews
    have HTOLD : Hid (told = s.told) := htold
    clear hnews htold
    go_wp2_with (at_builtin; refine wpList_append_own_at _ rfl (.tmp 50) (.tmp 51) 37 rfl w.heap.size 3 i0 (.int .i64 0) 1 8 Try.underlying37 hi hz0 hz1 hz2 rfl (by decide) _ _ _ rfl hown ⟨gT, 0, none⟩ n n news rfl hlenT hcc h64 ?k4 ?k5 ?k6 ?_)
    case k4 => unfold maxLen; omega
    case k5 => omega
    case k6 => simp; omega
    intro v' w3 hown1 hgrow hnn hat
    have hown2 : w3.ownsRow w.heap.size 3 1 v' (0 + n) ([] ++ news) := by rw [Nat.zero_add, List.nil_append]; exact hown1
    obtain ⟨γ3, ho3, hs3, hk3⟩ := own_append ho1 hs1 rfl hown2 hgrow (by simpa using hat)
    rw [Nat.zero_add, List.nil_append, HNEWS.out, ← HTOLD.out] at hs3
    have hw3 := hw1.keep' ho3 fun k hk => hk3 k (by omega)
    clear hown1 hown2 hgrow hnn hat hown hs1 hcc hw1 ho1 hk3 h64 hlenT HNEWS hw
    go_wp2_with fail
    refine (cellStart_any hw3.own hw3.c hw3.ok).mono ?_
    rintro e w4 ⟨rfl, rfl⟩
    by_cases ht : s.c.t = 0
    · rw [show s.c.startN = s.c.q by unfold CS.startN; rw [if_neg (by simpa using ht)], show s.c.startE = 0 by unfold CS.startE; rw [if_neg (by simpa using ht)], ans2_eq]
      have hT0 : Hid (s.c.t = 0) := ht
      obtain ⟨c0, hc0⟩ : ∃ c, c = s.c := ⟨_, rfl⟩
      have hc0t : Hid (c0.t = 0) := by rw [hc0]; exact ht
      have hW0 : Hid (told = c0.ws.take n) := by rw [hc0, HTOLD.out]; exact (hinv.told ht).trans hinv.now
      have hln : n < c0.ws.length + 1 := by rw [hc0, hinv.ok.len]; omega
      have hl4 : c0.ws.length = 4 := by rw [hc0]; exact hinv.ok.len
      rw [← hc0]
      have ho4 := ho3.new 21 (.cells #[] 3)
      have hmid : Mid w gp n gN gT v' told c0 0 0 (.slice (some ⟨w3.heap.size, 0, none⟩) 0 0) [] s (put γ3 21 w3.heap.size (.cells #[] 3)) (w3.alloc (.cells #[] 3)) :=
        ⟨hinv, by omega, ⟨by rw [hc0]; exact Nat.le_refl _, rfl, fun _ => ⟨hc0.symm, rfl⟩⟩, hw3.keep' ho4 fun k hk => put_other _ _ _ (by omega), hs3.keep (put_other _ _ _ (by decide)),
          ⟨rfl, .inr ⟨_, 0, _, rfl, put_same _ _ _ _, Nat.le_refl _, by omega, rfl, rfl⟩⟩⟩
      clear hc0 ht hT0 HTOLD
      obtain ⟨Aw, capw, rfl, hcapw⟩ := hs3.form
      go_wp2_with fail
      go_loopw [15, 16, 17] (fun gv a' i wr => MidAt w gp n gN gT (.slice Aw n capw) told c0 len2 gv a' i wr) (fun _ _ i _ => n - (intOf i).toNat)
      case atStart => exact ⟨0, 0, [], s, _, rfl, rfl, by omega, by omega, by omega, hmid⟩
      case round =>
        obtain ⟨k, a, gl, s, γ, rfl, rfl, hk, ha, ha3, hm⟩ := hrel
        by_cases hlt : k < n
        · obtain ⟨Ag, capg, rfl, hcapg⟩ := hm.got.form
          have hc0l : k < c0.ws.length := by omega
          go_upto_block 4 with (fail)
          go_cut [16, 18] (fun a' _ wx => InEnd w gp n gN gT (.slice Aw n capw) told c0 len2 k (.slice Ag k capg) gl a' wx)
          case rest =>
            clear hm ha ha3
            obtain ⟨a, s, γ, rfl, ha, ha3, hm⟩ := hcut
            have hsn := hm.inv.cs
            have hrd := hm.rd.read hc0l
            have hlen4 := hm.inv.ok.len
            go_wp2_with fail
            refine (cellWord_any hm.at_.own hm.at_.c hm.at_.ok k).mono ?_
            rintro e w5 ⟨rfl, rfl⟩
            rw [show s.c.wordN k = s.c.ws.getD k 0 by unfold CS.wordN; rw [if_neg (by omega), Int.toNat_natCast], show s.c.wordE k = 0 by unfold CS.wordE; rw [if_neg (by omega)], ans2_eq]
            generalize s.c.ws.getD k 0 = u at hrd ⊢
            obtain ⟨i0, hi, hz0, hz1, hz2⟩ := info_parts Try.info3
            have hbase := hm.at_.own.below.size
            have hown := hm.got.owns hm.at_.own
            obtain ⟨xs, hxs⟩ : ∃ xs, xs = ints gl := ⟨_, rfl⟩
            have hgot := hm.got
            rw [← hxs] at hown hgot
            have HX : Hid (xs = ints gl) := hxs
            clear hxs
            go_wp2_with (at_builtin; refine wpList_append_own_at _ rfl (.tmp 104) (.tmp 106) 37 rfl w.heap.size 3 i0 (.int .i64 0) 1 8 Try.underlying37 hi hz0 hz1 hz2 rfl (by decide) _ _ _ rfl (hown.alloc _) ⟨wc.heap.size, 0, none⟩ 1 1 [.int .i64 u] rfl rfl (cell_one_new _ _ _) ?c2 ?c3 ?c4 ?c5 ?_)
            case c2 => intro u' hu; simp at hu; subst hu; rfl
            case c3 => unfold maxLen; omega
            case c4 => omega
            case c5 => simp; omega
            intro v5 w5 hown1 hgrow hnn hat
            have hs' := hm.at_.own.below' ((Below.refl wc.heap.size wc).alloc (Nat.le_refl _) (Obj.cells #[Value.int .i64 u] 3))
            obtain ⟨γ5, ho5, hs5, hk5⟩ := own_append hs' hgot rfl hown1 hgrow (by simpa using hat)
            have hm5 : Mid w gp n gN gT (.slice Aw n capw) told c0 (k + 1) a v5 (gl ++ [u]) s γ5 w5 :=
              ⟨hm.inv, hm.q, hrd, hm.at_.keep' ho5 (fun k' hk' => hk5 k' (by omega)), hm.want.keep (hk5 20 (by decide)), by rw [← ints_snoc, ← HX.out]; exact hs5⟩
            clear hown1 hgrow hnn hat hs' hown hk5 hgot hs5
            go_wp2_with fail
            go_roundw
            case rel => exact ⟨k + 1, a, gl ++ [u], s, γ5, rfl, by go_num, by omega, ha, by omega, hm5⟩
            case measure => simp [intOf]; omega
          go_wp2_with fail
          go_loopw [16, 18] (fun a' j wr => InAt w gp n gN gT (.slice Aw n capw) told c0 len2 k (.slice Ag k capg) gl a' j wr) (fun _ j _ => 3 - (intOf j).toNat)
          case atStart => exact ⟨a, 0, s, γ, rfl, rfl, by omega, ha, by omega, hm⟩
          case round =>
            clear hm ha ha3
            obtain ⟨a, m, s, γ, rfl, rfl, hm3, ha, ha3, hm⟩ := hrel
            have hqq := hm.q
            by_cases hgo : m < 3 ∧ a < len2
            · obtain ⟨h3, hlt2⟩ := hgo
              rcases hrows2' with h0 | ⟨b, off, f, rfl, hlc, hml, hcell⟩
              · omega
              obtain ⟨⟨x0, x1⟩, x2, x3⟩ := hcell a hlt2
              rw [← hm.at_.own.below.cell (World.block_lt_of_cell? w _ x0)] at x0
              rw [← hm.at_.own.below.cell (World.block_lt_of_cell? w _ x1)] at x1
              rw [← hm.at_.own.below.cell (World.block_lt_of_cell? w _ x2)] at x2
              rw [← hm.at_.own.below.cell (World.block_lt_of_cell? w _ x3)] at x3
              generalize (f a).1 = xd at x0
              generalize (f a).2.1 = xt at x1
              generalize (f a).2.2.1 = xi at x2
              generalize (f a).2.2.2 = xv at x3
              clear hcell
              have hdo := write_any hm.at_ (by omega) xd xt xi xv
              have hi2 := hm.inv.write (by omega) xd xt xi xv
              have hq2 := (s.write_q xd xt xi xv).2
              have hr2 := hm.rd.write hc0t.out xd xt xi xv
              generalize s.write xd xt xi xv = s' at *
              go_wp2_with fail
              refine hdo.mono ?_
              rintro e w5 ⟨rfl, γ5, hw5, hk5⟩
              clear hdo
              have hm5 : Mid w gp n gN gT (.slice Aw n capw) told c0 k (a + 1) (.slice Ag k capg) gl s' γ5 w5 :=
                ⟨hi2, by omega, hr2, hw5, hm.want.keep (hk5 20 (by decide)), hm.got.keep (hk5 21 (by decide))⟩
              go_wp2_with fail
              go_roundw
              case rel => exact ⟨a + 1, m + 1, s', γ5, by go_num, by go_num, by omega, by omega, by omega, hm5⟩
              case measure => simp [intOf]; omega
            · by_cases h3 : m < 3
              · obtain rfl : a = len2 := by omega
                go_wp2_with fail
                go_meet
                exact ⟨a, s, γ, rfl, by omega, by omega, hm⟩
              · obtain rfl : m = 3 := by omega
                go_wp2_with fail
                go_meet
                exact ⟨a, s, γ, rfl, ha, by omega, hm⟩
        · obtain rfl : k = n := by omega
          obtain ⟨Ag, capg, rfl, hcapg⟩ := hm.got.form
          have hltold : told.length = k := by have := hm.want.1; rw [ints_length] at this; omega
          go_wp2_with fail
          refine (cellSame_any hm.at_.own hm.at_.c hm.at_.ok c0.q).mono ?_
          rintro e w5 ⟨rfl, rfl⟩
          by_cases hsame : (s.c.q : Int) = c0.q ∧ s.c.t = 0
          · rw [show s.c.sameE c0.q = 0 from if_neg (by rintro (h | h); exact h hsame.1; exact h hsame.2), ans_eq]
            have hgl : Hid (gl = told) := (hm.rd.done (by omega)).trans hW0.out.symm
            clear hsame
            go_wp2_with fail
            go_loopw [21] (fun i wr => EqAt w k γ i wr) (fun i _ => k - (intOf i).toNat)
            case atStart => exact ⟨0, rfl, by omega, hm.at_.own⟩
            case round =>
              obtain ⟨j, rfl, hj, ho⟩ := hrel
              by_cases hlt : j < k
              · obtain ⟨g1, cap1, hv1, hc1⟩ := hm.got.at_ ho hlt
                cases hv1
                obtain ⟨g2, cap2, hv2, hc2⟩ := hm.want.at_ ho hlt
                cases hv2
                rw [hgl.out, ints_get _ _ (by omega)] at hc1
                rw [ints_get _ _ (by omega)] at hc2
                generalize told.getD j 0 = u at hc1 hc2
                go_wp2_with fail
                go_quiet (fail)
                go_wp2_with fail
                go_roundw
                case rel => exact ⟨j + 1, by go_num, by omega, ho.drewN _⟩
                case measure => simp [intOf]; omega
              · obtain rfl : j = k := by omega
                go_wp2_with fail
                refine (cellAwake _).mono ?_
                rintro e w6 ⟨rfl, hb6⟩
                go_wp2_with fail
                go_ret
                exact ⟨rfl, (ho.below' hb6).below⟩
          · rw [show s.c.sameE c0.q = 17 from if_pos (by by_cases h : (s.c.q : Int) = c0.q; exact .inr (fun h2 => hsame ⟨h, h2⟩); exact .inl h), ans_eq]
            clear hsame
            go_wp2_with fail
            refine (cellAwake _).mono ?_
            rintro e w6 ⟨rfl, hb6⟩
            go_wp2_with fail
            go_ret
            exact ⟨rfl, (hm.at_.own.below' hb6).below⟩
    · have ht' : (s.c.t != 0) = true := by simpa using ht
      rw [show s.c.startN = 0 from if_pos ht, show s.c.startE = 17 from if_pos ht, ans2_eq]
      obtain ⟨Aw, capw, rfl, hcapw⟩ := hs3.form
      go_wp2_with fail
      refine (cellAwake _).mono ?_
      rintro e w5 ⟨rfl, hb5⟩
      have hw5 := hw3.keep' (ho3.below' hb5) fun _ _ => rfl
      go_wp2_with fail
      refine (cellWriter_any hw5.own hw5.c hw5.ok).mono ?_
      rintro e w6 ⟨rfl, rfl⟩
      rw [ans_eq]
      generalize s.c.t = T0 at ht'
      go_wp2_with fail
      go_ret
      exact ⟨rfl, hw5.own.below⟩
  go_wp2_with fail
  go_loopw [11] (fun i wr => RAt w gp n gN gT len i wr) (fun i _ => len - (intOf i).toNat)
  case atStart => exact ⟨0, s1, _, rfl, by omega, by omega, by omega, hi1, hw1⟩
  case round =>
    obtain ⟨k, s, γ, rfl, hk1, hk2, hq, hinv, hw⟩ := hrel
    clear hw1 hi1 hq0
    by_cases hgo : k < len ∧ k < 40
    · obtain ⟨hlt, h40⟩ := hgo
      rcases hrows' with h0 | ⟨b, off, f, rfl, hlc, hm, hcell⟩
      · omega
      obtain ⟨⟨x0, x1⟩, x2, x3⟩ := hcell k hlt
      rw [← hw.own.below.cell (World.block_lt_of_cell? w _ x0)] at x0
      rw [← hw.own.below.cell (World.block_lt_of_cell? w _ x1)] at x1
      rw [← hw.own.below.cell (World.block_lt_of_cell? w _ x2)] at x2
      rw [← hw.own.below.cell (World.block_lt_of_cell? w _ x3)] at x3
      generalize (f k).1 = xd at x0
      generalize (f k).2.1 = xt at x1
      generalize (f k).2.2.1 = xi at x2
      generalize (f k).2.2.2 = xv at x3
      clear hcell
      have hdo := write_any hw (by omega) xd xt xi xv
      have hi2 := hinv.write (by omega) xd xt xi xv
      have hq2 := (s.write_q xd xt xi xv).2
      generalize s.write xd xt xi xv = s' at *
      go_wp2_with fail
      refine hdo.mono ?_
      rintro e w5 ⟨rfl, γ5, hw5, _⟩
      clear hdo
      go_wp2_with fail
      go_roundw
      case rel => exact ⟨k + 1, s', γ5, by go_num, by omega, by omega, by omega, hi2, hw5⟩
      case measure => simp [intOf]; omega
    · have hq40 : s.c.q ≤ 40 := by omega
      by_cases hlt : k < len
      · obtain rfl : k = 40 := by omega
        go_wp2_with fail
        go_meet
        exact ⟨s, γ, hq40, hinv, hw⟩
      · obtain rfl : k = len := by omega
        go_wp2_with fail
        go_meet
        exact ⟨s, γ, hq40, hinv, hw⟩

theorem cellReads_walk (sz : Int) (A : Option Addr) (len cap : Nat) (A2 : Option Addr) (len2 cap2 : Nat) (w : World) (wf : (Lit.int .u8 sz).wf = true) (hrows : RowsIn w A len cap [.int .u8, .int .i64, .int .i64, .int .i64]) (hrows2 : RowsIn w A2 len2 cap2 [.int .u8, .int .i64, .int .i64, .int .i64]) :
    Calls Try.prog 9 #[.int .u8 sz, .slice A len cap, .slice A2 len2 cap2] w fun e w' => e = .returned (.bool true) ∧ Below w.heap.size w w' := by
  have h0 : 0 ≤ sz ∧ sz < 256 := by simp [Lit.wf, IntKind.min, IntKind.max, IntKind.signed, IntKind.bits] at wf; omega
  obtain ⟨k, rfl⟩ : ∃ k : Nat, sz = k := ⟨sz.toNat, by omega⟩
  exact cellReads_nat k (by omega) A len cap A2 len2 cap2 w hrows hrows2
end Go.Proofs.Ytniiefcbiapieaa
