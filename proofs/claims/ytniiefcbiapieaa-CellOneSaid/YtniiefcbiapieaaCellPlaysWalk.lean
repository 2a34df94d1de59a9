/- The walk of CellPlays. -/
import Derived.Test.YtniiefcbiapieaaDoes
import Derived.Test.YtniiefcbiapieaaCelAwake
import Derived.Test.YtniiefcbiapieaaRead
import Derived.Deep.CutBlock
namespace Go.Proofs.Ytniiefcbiapieaa
open Go.RowKit

theorem does_any {w0 w : World} {γ : Nat → Option (Nat × Obj)} {gp gr : Nat} {c : CS} (ho : Own w0 w γ) (hp : γ 1 = some (gp, cellO c)) (hr : RefC γ 2 3 gr c) (hc : c.Ok) (d : Nat) (t i v : Int) :
    Calls Try.prog 28 #[.pointer (some ⟨gp, 0, none⟩), .pointer (some ⟨gr, 0, none⟩), .agg #[.int .u8 d, .int .i64 t, .int .i64 i, .int .i64 v]] w (doesPost w0 γ gp gr (c.act d t i v)) := by
  have hlt : d % 10 < 10 := Nat.mod_lt _ (by omega)
  by_cases h : d % 10 < 7
  · have : d % 10 = 0 ∨ d % 10 = 1 ∨ d % 10 = 2 ∨ d % 10 = 3 ∨ d % 10 = 4 ∨ d % 10 = 5 ∨ d % 10 = 6 := by omega
    unfold CS.act
    rcases this with e | e | e | e | e | e | e <;> simp only [e] <;> simp
    · exact does0 ho hp hr hc d t i v (by omega)
    · exact does1 ho hp hr hc d t i v (by omega)
    · exact does2 ho hp hr hc d t i v (by omega)
    · exact does3 ho hp hr hc d t i v (by omega)
    · exact does4 ho hp hr hc d t i v (by omega)
    · exact does5 ho hp hr hc d t i v (by omega)
    · exact does6 ho hp hr hc d t i v (by omega)
  · unfold CS.act
    rw [if_neg (by omega), if_neg (by omega), if_neg (by omega)]
    exact does7 ho hp hr hc d t i v (by simp; omega) (by simp; omega) (by simp; omega) (by simp; omega) (by simp; omega) (by simp; omega) (by simp; omega)

/-- Acts: what to do, a task, a word, a value. -/
theorem acts_of {w : World} {A : Option Addr} {len cap : Nat} (h : RowsIn w A len cap [.int .u8, .int .i64, .int .i64, .int .i64]) :
    len = 0 ∨ ∃ b off, ∃ f : Nat → Nat × Int × Int × Int, A = some ⟨b, off, none⟩ ∧ len ≤ cap ∧ len ≤ 9223372036854775807 ∧
      ∀ i, i < len → (w.cell? ⟨b, off + i * 4, none⟩ = some (.int .u8 (f i).1) ∧ w.cell? ⟨b, off + i * 4 + 1, none⟩ = some (.int .i64 (f i).2.1)) ∧ w.cell? ⟨b, off + i * 4 + 2, none⟩ = some (.int .i64 (f i).2.2.1) ∧ w.cell? ⟨b, off + i * 4 + 3, none⟩ = some (.int .i64 (f i).2.2.2) := by
  rcases h with ⟨h0, _⟩ | ⟨b, off, hA, hl, hm, hc⟩
  · exact .inl h0
  · right
    obtain ⟨f, hf⟩ := Go.Deep.choose_lt (α := Nat × Int × Int × Int) (n := len) (p := fun i x => (w.cell? ⟨b, off + i * 4, none⟩ = some (.int .u8 x.1) ∧ w.cell? ⟨b, off + i * 4 + 1, none⟩ = some (.int .i64 x.2.1)) ∧ w.cell? ⟨b, off + i * 4 + 2, none⟩ = some (.int .i64 x.2.2.1) ∧ w.cell? ⟨b, off + i * 4 + 3, none⟩ = some (.int .i64 x.2.2.2)) (fun i hi => by
      obtain ⟨v0, h0, x, rfl, wf0⟩ := hc i (by omega) 0 _ rfl
      obtain ⟨v1, h1, y, rfl, _⟩ := hc i (by omega) 1 _ rfl
      obtain ⟨v2, h2, z, rfl, _⟩ := hc i (by omega) 2 _ rfl
      obtain ⟨v3, h3, u, rfl, _⟩ := hc i (by omega) 3 _ rfl
      have h0x : 0 ≤ x := by simp [Lit.wf, IntKind.min, IntKind.signed] at wf0; omega
      refine ⟨(x.toNat, y, z, u), ⟨?_, by simpa [Nat.add_assoc] using h1⟩, by simpa [Nat.add_assoc] using h2, by simpa [Nat.add_assoc] using h3⟩
      have : ((x.toNat : Nat) : Int) = x := by omega
      simp only [this]
      simpa using h0)
    unfold maxLen at hm
    exact ⟨b, off, f, hA, hl, by omega, hf⟩

/-- How the round begins. -/
def CellAt (w : World) (s gp gr len most : Nat) (i : Value) (wr : World) : Prop :=
  ∃ (k : Nat) (c : CS) (γ : Nat → Option (Nat × Obj)), i = .int .i64 k ∧ k ≤ len ∧ k ≤ most ∧ c.q ≤ k ∧ c.s = s ∧ c.Ok ∧ Own w wr γ ∧ γ 1 = some (gp, cellO c) ∧ RefC γ 2 3 gr c

set_option maxRecDepth 100000 in
set_option maxHeartbeats 4000000 in
theorem cellPlays_walk (size : Int) (A : Option Addr) (len cap : Nat) (w : World) (_ : (Lit.int .i64 size).wf = true) (hrows : RowsIn w A len cap [.int .u8, .int .i64, .int .i64, .int .i64]) :
    Calls Try.prog 8 #[.int .i64 size, .slice A len cap] w fun e w' => e = .returned (.bool true) ∧ Below w.heap.size w w' := by
  have hs0 := Own.start w
  have hb := clampC_bounds size
  have hrows' := acts_of hrows
  clear hrows
  go_enter Try.func8, Try.ntmps8
  go_wp2_with fail
  refine (cellNew_any hs0 1 size).mono ?_
  rintro e w1 ⟨gp, rfl, hs1⟩
  have hp1 : (put (fun _ => none) 1 gp (cellO (CS.new (clampC size)))) 1 = some (gp, cellO (CS.new (clampC size))) := put_same _ _ _ _
  generalize (put (fun _ => none) 1 gp (cellO (CS.new (clampC size)))) = γ1 at *
  go_wp2_with fail
  refine (rcNew_any hs1 2 3 (by decide) size).mono ?_
  rintro e w2 ⟨gr, γ2, rfl, hs2, hr2, hk2⟩
  have hp2 := (hk2 1 (by decide) (by decide)).trans hp1
  have hok : (CS.new (clampC size)).Ok := CS.Ok.new hb
  have hq0 : (CS.new (clampC size)).q = 0 := rfl
  have hs0 : (CS.new (clampC size)).s = clampC size := rfl
  generalize CS.new (clampC size) = c0 at *
  generalize clampC size = s at *
  clear hs1 hp1 hk2
  go_wp2_with fail
  go_loopw [7] (fun i wr => CellAt w s gp gr len 80 i wr) (fun i _ => len - (intOf i).toNat)
  case atStart => exact ⟨0, c0, _, rfl, by omega, by omega, by omega, hs0, hok, hs2, hp2, hr2⟩
  case round =>
    obtain ⟨k, c, γ, rfl, hk1, hk2, hq, hcs, hc, ho, hp, hr⟩ := hrel
    clear hs0 hs2 hp2 hr2 hok hq0
    by_cases hlt : k < len
    · by_cases h100 : k < 80
      · rcases hrows' with h0 | ⟨b, off, f, rfl, hlc, hm, hcell⟩
        · omega
        obtain ⟨⟨x0, x1⟩, x2, x3⟩ := hcell k hlt
        generalize (f k).1 = xd at x0
        generalize (f k).2.1 = xt at x1
        generalize (f k).2.2.1 = xi at x2
        generalize (f k).2.2.2 = xv at x3
        clear hcell
        have hok2 := hc.act xd xt xi xv (by omega)
        have hq2 := c.act_q xd xt xi xv
        have hs2 := c.act_s xd xt xi xv
        have hdo : Calls Try.prog 28 #[.pointer (some ⟨gp, 0, none⟩), .pointer (some ⟨gr, 0, none⟩), .agg #[.int .u8 xd, .int .i64 xt, .int .i64 xi, .int .i64 xv]] wr.drew (doesPost w γ gp gr (c.act xd xt xi xv)) := does_any ho.drew hp hr hc xd xt xi xv
        have hx : ∀ (w' : World) γ', Own w w' γ' → w'.cell? ⟨b, off + k * 4, none⟩ = some (.int .u8 xd) ∧ w'.cell? ⟨b, off + k * 4 + 1, none⟩ = some (.int .i64 xt) ∧ w'.cell? ⟨b, off + k * 4 + 2, none⟩ = some (.int .i64 xi) ∧ w'.cell? ⟨b, off + k * 4 + 3, none⟩ = some (.int .i64 xv) := by
          intro w' γ' ho'
          refine ⟨?_, ?_, ?_, ?_⟩
          · rw [ho'.below.cell (World.block_lt_of_cell? w _ x0)]; exact x0
          · rw [ho'.below.cell (World.block_lt_of_cell? w _ x1)]; exact x1
          · rw [ho'.below.cell (World.block_lt_of_cell? w _ x2)]; exact x2
          · rw [ho'.below.cell (World.block_lt_of_cell? w _ x3)]; exact x3
        obtain ⟨z0, z1, z2, z3⟩ := hx _ _ ho.drew
        clear x0 x1 x2 x3
        generalize c.act xd xt xi xv = c' at *
        go_wp2_with fail
        go_region_with
          (first
            | (go_at_call 28; refine hdo.mono ?_; rintro e w5 ⟨rfl, γ5, ho5, hp5, hr5, _⟩; obtain ⟨q0, q1, q2, q3⟩ := hx _ _ ho5; obtain ⟨b5, e5, sv5, a1, a2, a3, a4, hg5, hsl5⟩ := id hr5; obtain ⟨A5, cap5, rfl, hc5⟩ := hsl5.form
               have d3 : w5.cell? ⟨gr, 3, none⟩ = some (.int .i64 c'.t) := ho5.cell hg5 (i := 3) rfl
               have d2 : w5.cell? ⟨gr, 2, none⟩ = some (.slice A5 c'.s cap5) := ho5.cell hg5 (i := 2) rfl
               clear a1 a2 a3 a4)
            | (go_at_call 29; refine (cellWriter_any (by assumption) (by assumption) hok2).mono ?_; rintro e w' ⟨rfl, rfl⟩; rw [ans_eq])
            | (go_at_call 30; refine (cellSize_any (by assumption) (by assumption) hok2).mono ?_; rintro e w' ⟨rfl, rfl⟩; rw [ans_eq]))
        all_goals go_wp2_with fail
        all_goals go_roundw
        all_goals first
          | (case rel => exact ⟨k + 1, c', γ5, by go_num, by omega, by omega, by omega, by omega, hok2, ho5, hp5, hr5⟩)
          | skip
        all_goals (simp [intOf]; omega)
      · obtain rfl : k = 80 := by omega
        go_wp2_with fail
        refine (cellAwake _).mono ?_
        rintro e w9 ⟨rfl, hb9⟩
        go_wp2_with fail
        go_ret
        exact ⟨rfl, (ho.below' hb9).below⟩
    · obtain rfl : k = len := by omega
      go_wp2_with fail
      refine (cellAwake _).mono ?_
      rintro e w9 ⟨rfl, hb9⟩
      go_wp2_with fail
      go_ret
      exact ⟨rfl, (ho.below' hb9).below⟩
end Go.Proofs.Ytniiefcbiapieaa
