/- The walk of CellOne. -/
import Derived.Test.YtniiefcbiapieaaCellPlaysWalk
import Derived.Deep.DeepCutAuto
import Derived.Test.YtniiefcbiapieaaHeap
import Derived.Test.YtniiefcbiapieaaAgg
namespace Go.Proofs.Ytniiefcbiapieaa
open Go.RowKit

def OneAt (w : World) (n gp gr ga : Nat) (o : Obj) (len : Nat) (i : Value) (wr : World) : Prop :=
  ∃ (k : Nat) (c : CS) (γ : Nat → Option (Nat × Obj)), i = .int .i64 k ∧ k ≤ len ∧ k ≤ 40 ∧ c.q ≤ k ∧ c.s = n ∧ c.Ok ∧ Own w wr γ ∧ γ 1 = some (gp, cellO c) ∧ RefC γ 2 3 gr c ∧ γ 100 = some (ga, o)

/-- How the last loop's round begins. -/
def CmpAt (w : World) (m : Nat) (γ : Nat → Option (Nat × Obj)) (i : Value) (wr : World) : Prop := ∃ k : Nat, i = .int .i64 k ∧ k ≤ m ∧ Own w wr γ

def OneEnd (w : World) (n gp gr ga : Nat) (o : Obj) (wr : World) : Prop :=
  ∃ (c : CS) (γ : Nat → Option (Nat × Obj)), c.q ≤ 40 ∧ c.s = n ∧ c.Ok ∧ Own w wr γ ∧ γ 1 = some (gp, cellO c) ∧ γ 100 = some (ga, o)

def WasAt (w : World) (gp ga : Nat) (o : Obj) (c : CS) (v i : Value) (wr : World) : Prop :=
  ∃ (k : Nat) (γ : Nat → Option (Nat × Obj)), i = .int .i64 k ∧ k ≤ c.s ∧ Own w wr γ ∧ γ 1 = some (gp, cellO c) ∧ γ 100 = some (ga, o) ∧ SliceAt γ 20 3 1 v k (ints (c.ws.take k))

theorem putE_not {c : CS} {t : Int} (h : c.t ≠ t) (i : Int) : c.putE t i ≠ 0 := by
  unfold CS.putE
  by_cases h1 : t < 1 ∨ i < 0 ∨ (c.s : Int) ≤ i
  · rw [if_pos h1]; decide
  · rw [if_neg h1, if_pos h]; decide
theorem endE_not {c : CS} {t : Int} (h : c.t ≠ t) : c.endE t ≠ 0 := by
  unfold CS.endE
  by_cases h1 : t < 1
  · rw [if_pos h1]; decide
  · rw [if_neg h1, if_pos h]; decide
theorem beginE_not {c : CS} {t : Int} (h : c.t ≠ t) (h0 : c.t ≠ 0) : c.beginE t ≠ 0 := by
  unfold CS.beginE
  by_cases h1 : t < 1
  · rw [if_pos h1]; decide
  · rw [if_neg h1, if_neg h, if_pos h0]; decide

set_option maxRecDepth 100000 in
set_option maxHeartbeats 8000000 in
theorem cellOne_nat (sz : Nat) (hsz : sz < 256) (A : Option Addr) (len cap : Nat) (ad : Nat) (aT ai av : Int) (w : World) (hrows : RowsIn w A len cap [.int .u8, .int .i64, .int .i64, .int .i64]) :
    Calls Try.prog 10 #[.int .u8 sz, .slice A len cap, .agg #[.int .u8 ad, .int .i64 aT, .int .i64 ai, .int .i64 av]] w fun e w' => e = .returned (.bool true) ∧ Below w.heap.size w w' := by
  have hs0 := (Own.start w).new 100 (actO ad aT ai av)
  have hg0 : (put (fun _ => none) 100 w.heap.size (actO ad aT ai av)) 100 = some (w.heap.size, actO ad aT ai av) := put_same _ _ _ _
  generalize (put (fun _ => none) 100 w.heap.size (actO ad aT ai av)) = γ0 at *
  have hm4 : sz % 4 < 4 := Nat.mod_lt _ (by omega)
  have hrows' := acts_of hrows
  clear hrows
  obtain ⟨n, hn⟩ : ∃ n, n = 1 + sz % 4 := ⟨_, rfl⟩
  have hb : 1 ≤ n ∧ n ≤ 4 := by omega
  have hcl : clampC (n : Int) = n := by unfold clampC; split <;> (try split) <;> omega
  have hsum : (1 + (sz : Int) % 4) = (n : Int) := by omega
  clear hn hm4
  go_enter Try.func10, Try.ntmps10
  go_wp2_with fail
  unfold actO at hs0
  refine (cellNew_any hs0 1 n).mono ?_
  rintro e w1 ⟨gp, rfl, hs1⟩
  rw [hcl] at hs1
  have hp1 : (put γ0 1 gp (cellO (CS.new n))) 1 = some (gp, cellO (CS.new n)) := put_same _ _ _ _
  have hg1 : (put γ0 1 gp (cellO (CS.new n))) 100 = some (w.heap.size, actO ad aT ai av) := by rw [put_other _ _ _ (by decide)]; exact hg0
  generalize (put γ0 1 gp (cellO (CS.new n))) = γ1 at *
  go_wp2_with fail
  refine (rcNew_any hs1 2 3 (by decide) n).mono ?_
  rintro e w2 ⟨gr, γ2, rfl, hs2, hr2, hk2⟩
  rw [hcl] at hr2
  have hp2 := (hk2 1 (by decide) (by decide)).trans hp1
  have hg2 := (hk2 100 (by decide) (by decide)).trans hg1
  have hok : (CS.new n).Ok := CS.Ok.new hb
  have hq0 : (CS.new n).q = 0 := rfl
  have hss : (CS.new n).s = n := rfl
  generalize CS.new n = c0 at *
  generalize w.heap.size = ga at hg0 hg1 hg2 ⊢
  clear hs1 hp1 hk2 hg0 hg1 hs0 hcl hsum
  go_upto_block 0 with (fail)
  go_cut [9] (fun _ wx => OneEnd w n gp gr ga (actO ad aT ai av) wx)
  case rest =>
    obtain ⟨c, γ, hq, hcs, hc, ho, hp, hg⟩ := hcut
    clear hss hs2 hp2 hr2 hok hq0 hg2
    clear w1 w2 γ1 γ2 c0 γ0
    go_wp2_with fail
    refine (cellWriter_any ho hp hc).mono ?_
    rintro e w3 ⟨rfl, rfl⟩
    rw [ans_eq]
    obtain ⟨T0, hT0⟩ : ∃ x : Int, x = c.t := ⟨_, rfl⟩
    rw [← hT0]
    have HT : Hid (T0 = c.t) := hT0
    clear hT0
    have ho1 := ho.new 20 (.cells #[] 3)
    have hp1 : put γ 20 wc.heap.size (.cells #[] 3) 1 = some (gp, cellO c) := by rw [put_other _ _ _ (by decide)]; exact hp
    have hg1 : put γ 20 wc.heap.size (.cells #[] 3) 100 = some (ga, actO ad aT ai av) := by rw [put_other _ _ _ (by decide)]; exact hg
    have hsl1 : SliceAt (put γ 20 wc.heap.size (.cells #[] 3)) 20 3 1 (.slice (some ⟨wc.heap.size, 0, none⟩) 0 0) 0 (ints (c.ws.take 0)) := ⟨rfl, .inr ⟨_, 0, _, rfl, put_same _ _ _ _, Nat.le_refl _, by omega, rfl, rfl⟩⟩
    generalize put γ 20 wc.heap.size (.cells #[] 3) = γ1 at *
    clear ho hp hg
    go_wp2_with fail
    go_loopw [11, 12] (fun v i wr => WasAt w gp ga (actO ad aT ai av) c v i wr) (fun _ i _ => c.s - (intOf i).toNat)
    case atStart => exact ⟨0, _, rfl, by omega, ho1, hp1, hg1, hsl1⟩
    case round =>
      obtain ⟨k, γ, rfl, hk, ho, hp, hg, hsl⟩ := hrel
      clear ho1 hp1 hg1 hsl1
      by_cases hlt : k < c.s
      · go_wp2_with fail
        refine (cellSize_any ho hp hc).mono ?_
        rintro e w4 ⟨rfl, rfl⟩
        rw [ans_eq]
        go_wp2_with fail
        refine (cellWord_any ho hp hc k).mono ?_
        rintro e w4 ⟨rfl, rfl⟩
        have hlen : c.ws.length = 4 := hc.len
        have h4 := hc.hi
        rw [show c.wordN k = c.ws.getD k 0 by unfold CS.wordN; rw [if_neg (by omega), Int.toNat_natCast], show c.wordE k = 0 by unfold CS.wordE; rw [if_neg (by omega)], ans2_eq]
        have hsn : ints (c.ws.take k) ++ [.int .i64 (c.ws.getD k 0)] = ints (c.ws.take (k + 1)) := by
          rw [ints_snoc, List.take_add_one, List.getElem?_eq_getElem (by omega)]
          simp [List.getD_eq_getElem?_getD, show k < c.ws.length by omega]
        generalize c.ws.getD k 0 = u at hsn ⊢
        have HS : Hid (ints (c.ws.take k) ++ [.int .i64 u] = ints (c.ws.take (k + 1))) := hsn
        clear hsn
        obtain ⟨i0, hi, hz0, hz1, hz2⟩ := info_parts Try.info3
        obtain ⟨A1, cap1, rfl, hcap1⟩ := hsl.form
        have hbase := ho.below.size
        have hown := hsl.owns ho
        obtain ⟨xs, hxs⟩ : ∃ xs, xs = ints (c.ws.take k) := ⟨_, rfl⟩
        rw [← hxs] at hsl hown HS
        clear hxs
        go_wp2_with (at_builtin; refine wpList_append_own_at _ rfl (.tmp 66) (.tmp 68) 37 rfl w.heap.size 3 i0 (.int .i64 0) 1 8 Try.underlying37 hi hz0 hz1 hz2 rfl (by decide) _ _ _ rfl (hown.alloc _) ⟨wr.heap.size, 0, none⟩ 1 1 [.int .i64 u] rfl rfl (cell_one_new _ _ _) ?c2 ?c3 ?c4 ?c5 ?_)
        case c2 => intro u' hu; simp at hu; subst hu; rfl
        case c3 => unfold maxLen; omega
        case c4 => omega
        case c5 => simp; omega
        intro v' w5 hown1 hgrow hnn hat
        have hs' := ho.below' ((Below.refl wr.heap.size wr).alloc (Nat.le_refl _) (Obj.cells #[Value.int .i64 u] 3))
        obtain ⟨γ5, ho5, hs5, hk5⟩ := own_append hs' hsl rfl hown1 hgrow (by simpa using hat)
        have hp5 := (hk5 1 (by decide)).trans hp
        have hg5 := (hk5 100 (by decide)).trans hg
        clear hown1 hgrow hnn hat hs' hown hk5 hsl
        go_wp2_with fail
        go_roundw
        case rel => exact ⟨k + 1, γ5, by go_num, by omega, ho5, hp5, hg5, by rw [← HS.out]; exact hs5⟩
        case measure => simp [intOf]; omega
      · obtain rfl : k = c.s := by omega
        obtain ⟨A1, cap1, rfl, hcap1⟩ := hsl.form
        go_wp2_with fail
        refine (cellSize_any ho hp hc).mono ?_
        rintro e w4 ⟨rfl, rfl⟩
        rw [ans_eq]
        go_wp2_with fail
        refine (cellStart_any ho hp hc).mono ?_
        rintro e w4 ⟨rfl, rfl⟩
        have q1 : wr.cell? ⟨ga, 1, none⟩ = some (.int .i64 aT) := ho.cell hg (i := 1) rfl
        have q2 : wr.cell? ⟨ga, 2, none⟩ = some (.int .i64 ai) := ho.cell hg (i := 2) rfl
        have q3 : wr.cell? ⟨ga, 3, none⟩ = some (.int .i64 av) := ho.cell hg (i := 3) rfl
        have hq0 := hc.small
        have ht0 := hc.t0
        by_cases hT : aT = T0
        · subst hT
          by_cases hz : aT = 0
          · subst hz
            have hz : c.t = 0 := HT.out.symm
            rw [show c.startN = c.q by unfold CS.startN; rw [if_neg (by simpa using hz)], show c.startE = 0 by unfold CS.startE; rw [if_neg (by simpa using hz)], ans2_eq]
            go_wp2_with fail
            refine (cellAwake _).mono ?_
            rintro e w9 ⟨rfl, hb9⟩
            go_wp2_with fail
            go_ret
            exact ⟨rfl, (ho.below' hb9).below⟩
          · have hz' : c.t ≠ 0 := by rw [← HT.out]; exact hz
            rw [show c.startN = 0 from if_pos hz', show c.startE = 17 from if_pos hz', ans2_eq]
            have hbe : c.beginE aT = 11 := by
              unfold CS.beginE
              rw [if_neg (by rw [HT.out]; omega), if_pos HT.out.symm]
            have hne : (aT == 0) = false := by simpa using hz
            clear hz hz'
            go_wp2_with fail
            refine (cellAwake _).mono ?_
            rintro e w9 ⟨rfl, hb9⟩
            have ho9 := ho.below' hb9
            go_wp2_with fail
            refine (cellBegin_any ho9 hp hc aT).mono ?_
            rintro e w10 ⟨rfl, ho10⟩
            rw [hbe, ans_eq]
            go_wp2_with fail
            go_ret
            exact ⟨rfl, ho10.below⟩
        · have hTb : (aT == T0) = false := by simpa using hT
          have hnt : c.t ≠ aT := by rw [← HT.out]; exact fun h => hT h.symm
          have hpe : c.putE aT ai ≠ 0 := by
            exact putE_not hnt ai
          have hps : c.put aT ai av = c := if_neg hpe
          have hee : c.endE aT ≠ 0 := by
            exact endE_not hnt
          have hes : c.end_ aT = c := if_neg hee
          have kput : ∀ x_ : Cls (fun w' => Own w w' γ), Calls Try.prog 37 #[.pointer (some ⟨gp, 0, none⟩), .int .i64 aT, .int .i64 ai, .int .i64 av] x_.world fun e w'' => e = .returned (.int .i64 (c.putE aT ai)) ∧ ∃ y : Cls (fun w' => Own w w' γ), w'' = y.world :=
            fun x_ => cls_call ((cellPut_any x_.ok hp hc aT ai av).mono fun e w' ⟨he, ho'⟩ => ⟨he, by rw [hps, put_id hp] at ho'; exact ho'⟩)
          have kend : ∀ x_ : Cls (fun w' => Own w w' γ), Calls Try.prog 38 #[.pointer (some ⟨gp, 0, none⟩), .int .i64 aT] x_.world fun e w'' => e = .returned (.int .i64 (c.endE aT)) ∧ ∃ y : Cls (fun w' => Own w w' γ), w'' = y.world :=
            fun x_ => cls_call ((cellEnd_any x_.ok hp hc aT).mono fun e w' ⟨he, ho'⟩ => ⟨he, by rw [hes, put_id hp] at ho'; exact ho'⟩)
          have kbeg : c.t ≠ 0 → ∀ w9, Own w w9 γ → Calls Try.prog 36 #[.pointer (some ⟨gp, 0, none⟩), .int .i64 aT] w9 fun e w'' => e = .returned (.int .i64 (c.beginE aT)) ∧ Own w w'' γ := by
            intro hz w9 ho9
            refine (cellBegin_any ho9 hp hc aT).mono fun e w' ⟨he, ho'⟩ => ⟨he, ?_⟩
            have hbe : c.beginE aT ≠ 0 := by
              exact beginE_not hnt hz
            rw [show c.begin aT = c from if_neg hbe, put_id hp] at ho'
            exact ho'
          have hbe : c.t ≠ 0 → (c.beginE aT == 0) = false := by
            intro hz
            have hbe : c.beginE aT ≠ 0 := by
              exact beginE_not hnt hz
            simpa using hbe
          have hpx : (c.putE aT ai == 0) = false := by simpa using hpe
          have hpy : (c.endE aT == 0) = false := by simpa using hee
          generalize c.putE aT ai = px at *
          generalize c.endE aT = py at *
          generalize c.beginE aT = pb at *
          have d1 : ∀ x_ : Cls (fun w' => Own w w' γ), x_.world.cell? ⟨ga, 1, none⟩ = some (.int .i64 aT) := fun x_ => x_.ok.cell hg (i := 1) rfl
          have d2 : ∀ x_ : Cls (fun w' => Own w w' γ), x_.world.cell? ⟨ga, 2, none⟩ = some (.int .i64 ai) := fun x_ => x_.ok.cell hg (i := 2) rfl
          have d3 : ∀ x_ : Cls (fun w' => Own w w' γ), x_.world.cell? ⟨ga, 3, none⟩ = some (.int .i64 av) := fun x_ => x_.ok.cell hg (i := 3) rfl
          have hne0 : Nonempty (Cls (fun w' => Own w w' γ)) := ⟨⟨_, ho⟩⟩
          rw [ans2_eq]
          obtain ⟨sn, hsn⟩ : ∃ x, x = c.startN := ⟨_, rfl⟩
          obtain ⟨se, hse⟩ : ∃ x, x = c.startE := ⟨_, rfl⟩
          rw [← hsn, ← hse]
          have HN : Hid (sn = c.startN ∧ se = c.startE) := ⟨hsn, hse⟩
          clear hsn hse hpe hps hee hes hnt
          go_upto_region 16 with (fail)
          refine wp_region_class (fun w' => Own w w' γ) (by kernel_rfl) (by kernel_rfl) ho.drew ?_
          repeat (go_big_quiet_step (first | exact kput _ | exact kend _))
          refine wpQuiet_nil ?_
          rintro w9 ⟨⟨_, ho9⟩, rfl⟩
          clear d1 d2 d3 hne0 kput kend q1 q2 q3
          go_upto_region 17 with (fail)
          go_cut [122] (fun s122 wx => s122 = .bool false ∧ Own w wx γ)
          case rest =>
            obtain ⟨rfl, ho⟩ := hcut
            clear kbeg hbe hpx hpy ho9
            have hlen : c.ws.length = 4 := hc.len
            have h4 := hc.hi
            go_wp2_with fail
            go_loopw [19] (fun i wr => CmpAt w c.s γ i wr) (fun i _ => c.s - (intOf i).toNat)
            case atStart => exact ⟨0, rfl, by omega, ho⟩
            case round =>
              clear ho
              obtain ⟨k, rfl, hk', ho⟩ := hrel
              by_cases hlt : k < c.s
              · obtain ⟨g', cap', hA, hcell⟩ := hsl.at_ ho hlt
                cases hA
                rw [ints_get _ _ (by simp [hlen]; omega)] at hcell
                have e1 : (c.ws.take c.s).getD k 0 = c.ws.getD k 0 := by simp [List.getD_eq_getElem?_getD, List.getElem?_take, hlt]
                rw [e1] at hcell
                clear e1
                go_wp2_with fail
                refine (cellWord_any ho hp hc k).mono ?_
                rintro e w4 ⟨rfl, rfl⟩
                rw [show c.wordN k = c.ws.getD k 0 by unfold CS.wordN; rw [if_neg (by omega), Int.toNat_natCast], show c.wordE k = 0 by unfold CS.wordE; rw [if_neg (by omega)], ans2_eq]
                generalize c.ws.getD k 0 = u at hcell ⊢
                go_wp2_with fail
                go_roundw
                case rel => exact ⟨k + 1, by go_num, by omega, ho⟩
                case measure => simp [intOf]; omega
              · obtain rfl : k = c.s := by omega
                go_wp2_with fail
                refine (cellStart_any ho hp hc).mono ?_
                rintro e w4 ⟨rfl, rfl⟩
                rw [ans2_eq, ← HN.out.1, ← HN.out.2]
                go_wp2_with fail
                refine (cellAwake _).mono ?_
                rintro e w5 ⟨rfl, hb5⟩
                have ho5 := ho.below' hb5
                go_wp2_with fail
                refine (cellWriter_any ho5 hp hc).mono ?_
                rintro e w6 ⟨rfl, rfl⟩
                rw [ans_eq, ← HT.out]
                go_wp2_with fail
                go_ret
                exact ⟨rfl, ho5.below⟩
          by_cases hz : T0 = 0
          · have hzb : (T0 != 0) = false := by simpa using hz
            clear kbeg hbe hz
            go_wp2_with fail
            go_meet
            exact ⟨rfl, ho9⟩
          · have hzb : (T0 != 0) = true := by simpa using hz
            have hz' : c.t ≠ 0 := by rw [← HT.out]; exact hz
            have hb0 := hbe hz'
            have hkb := kbeg hz' _ ho9
            have q1 := ho9.cell hg (i := 1) (v := .int .i64 aT) rfl
            clear kbeg hbe hz hz'
            go_wp2_with fail
            refine hkb.mono ?_
            rintro e w10 ⟨rfl, ho10⟩
            clear hkb
            go_wp2_with fail
            go_meet
            exact ⟨rfl, ho10⟩
  go_wp2_with fail
  go_loopw [9] (fun i wr => OneAt w n gp gr ga (actO ad aT ai av) len i wr) (fun i _ => len - (intOf i).toNat)
  case atStart => exact ⟨0, c0, _, rfl, by omega, by omega, by omega, hss, hok, hs2, hp2, hr2, hg2⟩
  case round =>
    obtain ⟨k, c, γ, rfl, hk1, hk2, hq, hcs, hc, ho, hp, hr, hg⟩ := hrel
    clear hss hs2 hp2 hr2 hok hq0 hg2
    by_cases hgo : k < len ∧ k < 40
    · obtain ⟨hlt, h40⟩ := hgo
      rcases hrows' with h0 | ⟨b, off, f, rfl, hlc, hm, hcell⟩
      · omega
      obtain ⟨⟨x0, x1⟩, x2, x3⟩ := hcell k hlt
      rw [← ho.below.cell (World.block_lt_of_cell? w _ x0)] at x0
      rw [← ho.below.cell (World.block_lt_of_cell? w _ x1)] at x1
      rw [← ho.below.cell (World.block_lt_of_cell? w _ x2)] at x2
      rw [← ho.below.cell (World.block_lt_of_cell? w _ x3)] at x3
      generalize (f k).1 = xd at x0
      generalize (f k).2.1 = xt at x1
      generalize (f k).2.2.1 = xi at x2
      generalize (f k).2.2.2 = xv at x3
      clear hcell
      have hok2 := hc.act xd xt xi xv (by omega)
      have hq2 := c.act_q xd xt xi xv
      have hs2 := c.act_s xd xt xi xv
      have hdo := does_any ho hp hr hc xd xt xi xv
      generalize c.act xd xt xi xv = c' at *
      go_wp2_with fail
      refine hdo.mono ?_
      rintro e w5 ⟨rfl, γ5, ho5, hp5, hr5, hk5⟩
      have hg5 := (hk5 100 (by decide)).trans hg
      clear hdo hk5
      go_wp2_with fail
      go_roundw
      case rel => exact ⟨k + 1, c', γ5, by go_num, by omega, by omega, by omega, by omega, hok2, ho5, hp5, hr5, hg5⟩
      case measure => simp [intOf]; omega
    · have hq40 : c.q ≤ 40 := by omega
      by_cases hlt : k < len
      · obtain rfl : k = 40 := by omega
        go_wp2_with fail
        go_meet
        exact ⟨c, γ, hq40, hcs, hc, ho, hp, hg⟩
      · obtain rfl : k = len := by omega
        go_wp2_with fail
        go_meet
        exact ⟨c, γ, hq40, hcs, hc, ho, hp, hg⟩

theorem cellOne_walk (sz : Int) (A : Option Addr) (len cap : Nat) (cs : List Value) (w : World) (wf : (Lit.int .u8 sz).wf = true) (hrows : RowsIn w A len cap [.int .u8, .int .i64, .int .i64, .int .i64]) (hl : cs.length = 4) (hfit : Fit [.int .u8, .int .i64, .int .i64, .int .i64] cs) :
    Calls Try.prog 10 #[.int .u8 sz, .slice A len cap, .agg cs.toArray] w fun e w' => e = .returned (.bool true) ∧ Below w.heap.size w w' := by
  obtain ⟨d, t, i, v, rfl⟩ := act_of hl hfit
  have h0 : 0 ≤ sz ∧ sz < 256 := by simp [Lit.wf, IntKind.min, IntKind.max, IntKind.signed, IntKind.bits] at wf; omega
  obtain ⟨k, rfl⟩ : ∃ k : Nat, sz = k := ⟨sz.toNat, by omega⟩
  exact cellOne_nat k (by omega) A len cap d t i v w hrows
end Go.Proofs.Ytniiefcbiapieaa
