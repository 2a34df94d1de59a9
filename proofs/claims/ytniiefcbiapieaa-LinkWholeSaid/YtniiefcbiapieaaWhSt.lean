/- LinkWhole: what is kept from round to round. -/
import Derived.Test.YtniiefcbiapieaaWhPure
import Derived.Test.YtniiefcbiapieaaCellReadsWalk
namespace Go.Proofs.Ytniiefcbiapieaa
open Go.RowKit Go.ChangeMaps

theorem run_make37 (n : Nat) (hn : n ≤ 4096) (w : World) : (Instr.makeSlice 37 (.int .i64 n) (.int .i64 n)).run Try.prog w = .ok (.slice (some ⟨w.heap.size, 0, none⟩) n n) (w.alloc (.cells (madeCells #[.int .i64 0] n) 3)) := by
  obtain ⟨i0, hi, hz0, hz1, hz2⟩ := info_parts Try.info3
  have := run_makeSlice w (P := Try.prog) 37 3 i0 (.int .i64 0) Try.underlying37 hi hz0 .i64 .i64 n n (by omega) (by omega) (by rw [hz1]; simp; omega) (by rw [hz2]; omega) (by omega)
  rw [hz1] at this
  simpa [Value.cells] using this
theorem Try.info4 : (Try.prog.info? 4).map (fun i => (i.zero, i.size, i.bytes)) = some (some (.bool false), 1, 1) := by kernel_rfl
theorem run_make84 (n : Nat) (hn : n ≤ 4096) (w : World) : (Instr.makeSlice 84 (.int .i64 n) (.int .i64 n)).run Try.prog w = .ok (.slice (some ⟨w.heap.size, 0, none⟩) n n) (w.alloc (.cells (madeCells #[.bool false] n) 4)) := by
  obtain ⟨i0, hi, hz0, hz1, hz2⟩ := info_parts Try.info4
  have := run_makeSlice w (P := Try.prog) 84 4 i0 (.bool false) Try.underlying84 hi hz0 .i64 .i64 n n (by omega) (by omega) (by rw [hz1]; simp; omega) (by rw [hz2]; omega) (by omega)
  rw [hz1] at this
  simpa [Value.cells] using this

def bools (l : List Bool) : List Value := l.map Value.bool
theorem bools_length (l : List Bool) : (bools l).length = l.length := by simp [bools]
theorem SliceAt.madeB (γ : Nat → Option (Nat × Obj)) (t g n : Nat) (h : n ≤ maxLen) (hg : γ t = some (g, .cells (madeCells #[.bool false] n) 4 (0, 0))) :
    SliceAt γ t 4 1 (.slice (some ⟨g, 0, none⟩) n n) n (bools (List.replicate n false)) := by
  refine ⟨by simp [bools], .inr ⟨g, n, _, rfl, hg, Nat.le_refl _, h, by simp [size_madeCells], ?_⟩⟩
  apply List.ext_getElem?
  intro i
  simp [madeCells, bools, List.getElem?_take]
  by_cases hi : i < n <;> simp [hi, Nat.mod_one]

/-- Four slices of zeros, wherever they lie. -/
def Four (w0 w : World) (n : Nat) (γ0 : Nat → Option (Nat × Obj)) (v7 v8 v9 v10 : Value) : Prop :=
  ∃ (g7 g8 g9 g10 : Nat) (γ : Nat → Option (Nat × Obj)), v7 = .slice (some ⟨g7, 0, none⟩) n n ∧ v8 = .slice (some ⟨g8, 0, none⟩) n n ∧ v9 = .slice (some ⟨g9, 0, none⟩) n n ∧ v10 = .slice (some ⟨g10, 0, none⟩) n n ∧ Own w0 w γ ∧
    γ 7 = some (g7, .cells (madeCells #[.int .i64 0] n) 3 (0, 0)) ∧ γ 8 = some (g8, .cells (madeCells #[.int .i64 0] n) 3 (0, 0)) ∧ γ 9 = some (g9, .cells (madeCells #[.int .i64 0] n) 3 (0, 0)) ∧ γ 10 = some (g10, .cells (madeCells #[.int .i64 0] n) 3 (0, 0)) ∧ ∀ k, 12 ≤ k → γ k = γ0 k

theorem four_mk {w0 w : World} {n : Nat} {γ0 : Nat → Option (Nat × Obj)} (ho : Own w0 w γ0) (a b c d : Nat) (hp : ∀ t, t = 7 ∨ t = 8 ∨ t = 9 ∨ t = 10 → t = a ∨ t = b ∨ t = c ∨ t = d) (hd : a ≠ b ∧ a ≠ c ∧ a ≠ d ∧ b ≠ c ∧ b ≠ d ∧ c ≠ d) (hr : a < 12 ∧ b < 12 ∧ c < 12 ∧ d < 12) (o : Obj) (ho' : o = .cells (madeCells #[.int .i64 0] n) 3 (0, 0)) :
    ∃ γ, Own w0 ((((w.alloc o).alloc o).alloc o).alloc o) γ ∧ γ a = some (w.heap.size, o) ∧ γ b = some (w.heap.size + 1, o) ∧ γ c = some (w.heap.size + 2, o) ∧ γ d = some (w.heap.size + 3, o) ∧ ∀ k, 12 ≤ k → γ k = γ0 k := by
  have h := (((ho.new a o).new b o).new c o).new d o
  have e1 : (w.alloc o).heap.size = w.heap.size + 1 := by simp
  have e2 : ((w.alloc o).alloc o).heap.size = w.heap.size + 2 := by simp
  have e3 : (((w.alloc o).alloc o).alloc o).heap.size = w.heap.size + 3 := by simp
  rw [e1, e2, e3] at h
  refine ⟨_, h, ?_, ?_, ?_, put_same _ _ _ _, fun k hk => ?_⟩
  · rw [put_other _ _ _ (by omega), put_other _ _ _ (by omega), put_other _ _ _ (by omega), put_same]
  · rw [put_other _ _ _ (by omega), put_other _ _ _ (by omega), put_same]
  · rw [put_other _ _ _ (by omega), put_same]
  · rw [put_other _ _ _ (by omega), put_other _ _ _ (by omega), put_other _ _ _ (by omega), put_other _ _ _ (by omega)]

structure WhSt (w : World) (gl n g7 g8 g9 g10 g11 q : Nat) (s : Wh) (en : Nat → EndS) (γ : Nat → Option (Nat × Obj)) (wr : World) : Prop where
  l : LAt w γ 20 gl (whS n en s.f) wr
  en : en 0 = .cell s.c
  now : SliceAt γ 7 3 1 (.slice (some ⟨g7, 0, none⟩) n n) n (ints s.now)
  told : SliceAt γ 8 3 1 (.slice (some ⟨g8, 0, none⟩) n n) n (ints s.told)
  want : SliceAt γ 9 3 1 (.slice (some ⟨g9, 0, none⟩) n n) n (ints s.want)
  got : SliceAt γ 10 3 1 (.slice (some ⟨g10, 0, none⟩) n n) n (ints s.got)
  has : SliceAt γ 11 4 1 (.slice (some ⟨g11, 0, none⟩) n n) n (bools s.has)
  inv : s.Inv n
  q : s.c.q ≤ q

theorem wh_age {z : Int} {en : Nat → EndS} {f : Int → Int → Option (Int × Int)} {c : CS} (h : en 0 = .cell c) (hq : c.q < 999) : ∀ i, i < (whS z en f).ls.length → ((whS z en f).en i).age < 999 := by
  intro i hi
  have : i = 0 := by have : (whS z en f).ls.length = 1 := rfl; omega
  subst this
  show (en 0).age < 999
  rw [h]; exact hq

def WhAt (w : World) (gl n g7 g8 g9 g10 g11 len : Nat) (rdv i : Value) (wr : World) : Prop :=
  ∃ (k : Nat) (s : Wh) (en : Nat → EndS) (γ : Nat → Option (Nat × Obj)), i = .int .i64 k ∧ rdv = .bool s.rd ∧ k ≤ len ∧ k ≤ 80 ∧ WhSt w gl n g7 g8 g9 g10 g11 k s en γ wr

theorem WhSt.keep {w wr wr' : World} {gl n g7 g8 g9 g10 g11 q : Nat} {s : Wh} {en : Nat → EndS} {γ γ' : Nat → Option (Nat × Obj)} (h : WhSt w gl n g7 g8 g9 g10 g11 q s en γ wr) (ho : Own w wr' γ') (hk : ∀ k, k ≠ 12 → γ' k = γ k) : WhSt w gl n g7 g8 g9 g10 g11 q s en γ' wr' :=
  ⟨LinksAt.keep h.l ho fun k hk' => hk k (by omega), h.en, h.now.keep (hk _ (by decide)), h.told.keep (hk _ (by decide)), h.want.keep (hk _ (by decide)), h.got.keep (hk _ (by decide)), h.has.keep (hk _ (by decide)), h.inv, h.q⟩


theorem Wh.wr_now {s : Wh} {op b v : Int} (h : ¬ (op = 28 ∧ s.wE op b = 0)) : (s.wr op b v).now = s.now := by
  unfold Wh.wr
  split
  · rfl
  · split
    · rename_i h1 h2
      have : s.wE op b = s.c.putE 1 b := by
        subst h2
        unfold Wh.wE CS.wE
        rfl
      have hne : ¬ s.c.putE 1 b = 0 := fun hz => h ⟨h2, by rw [this]; exact hz⟩
      show (if s.c.putE 1 b = 0 then s.now.set b.toNat v else s.now) = s.now
      rw [if_neg hne]
    · split <;> rfl
theorem Wh.wr_told {s : Wh} {op b v : Int} (h : ¬ (op = 29 ∧ s.wE op b = 0)) : (s.wr op b v).told = s.told := by
  unfold Wh.wr
  split
  · rfl
  · split
    · rfl
    · split
      · rename_i h1 h2 h3
        have : s.wE op b = s.c.endE 1 := by
          subst h3
          unfold Wh.wE CS.wE
          rfl
        have hne : ¬ s.c.endE 1 = 0 := fun hz => h ⟨h3, by rw [this]; exact hz⟩
        show (if s.c.endE 1 = 0 then s.now else s.told) = s.told
        rw [if_neg hne]
      · rfl
theorem Wh.wr_rest (s : Wh) (op b v : Int) : (s.wr op b v).want = s.want ∧ (s.wr op b v).got = s.got ∧ (s.wr op b v).has = s.has ∧ (s.wr op b v).rd = s.rd := by
  unfold Wh.wr
  split
  · exact ⟨rfl, rfl, rfl, rfl⟩
  · split
    · exact ⟨rfl, rfl, rfl, rfl⟩
    · split <;> exact ⟨rfl, rfl, rfl, rfl⟩
theorem Wh.wr_set {s : Wh} {b v : Int} (h : s.wE 28 b = 0) : (s.wr 28 b v).now = s.now.set b.toNat v ∧ 0 ≤ b ∧ b < s.c.s := by
  have h1 : s.wE 28 b = s.c.putE 1 b := by
    unfold Wh.wE CS.wE
    rfl
  rw [h1] at h
  refine ⟨?_, putE_zero h⟩
  show (if s.c.putE 1 b = 0 then s.now.set b.toNat v else s.now) = _
  rw [if_pos h]
theorem Wh.wr_copy {s : Wh} {b v : Int} (h : s.wE 29 b = 0) : (s.wr 29 b v).told = s.now := by
  have h1 : s.wE 29 b = s.c.endE 1 := by
    unfold Wh.wE CS.wE
    rfl
  rw [h1] at h
  show (if s.c.endE 1 = 0 then s.now else s.told) = _
  rw [if_pos h]

section
variable {w w5 : World} {gl n g7 g8 g9 g10 g11 k : Nat} {s s' : Wh} {en en' : Nat → EndS} {γ γ5 : Nat → Option (Nat × Obj)} {wr : World}

/-- What the link alone changes. -/
theorem WhSt.link (h : WhSt w gl n g7 g8 g9 g10 g11 k s en γ wr) (h5 : LAt w γ5 20 gl (whS n en' s'.f) w5) (hk : ∀ k, k < 20 → γ5 k = γ k) (hen : en' 0 = .cell s'.c) (hi : s'.Inv n) {q : Nat} (hq : s'.c.q ≤ q)
    (e1 : s'.now = s.now) (e2 : s'.told = s.told) (e3 : s'.want = s.want) (e4 : s'.got = s.got) (e5 : s'.has = s.has) : WhSt w gl n g7 g8 g9 g10 g11 q s' en' γ5 w5 :=
  ⟨h5, hen, by rw [e1]; exact h.now.keep (hk _ (by decide)), by rw [e2]; exact h.told.keep (hk _ (by decide)), by rw [e3]; exact h.want.keep (hk _ (by decide)), by rw [e4]; exact h.got.keep (hk _ (by decide)), by rw [e5]; exact h.has.keep (hk _ (by decide)), hi, hq⟩

theorem ints_set (l : List Int) (i : Nat) (v : Int) : ints (l.set i v) = (ints l).set i (.int .i64 v) := by simp [ints, List.map_set]
theorem bools_get (l : List Bool) (i : Nat) (h : i < l.length) : (bools l).getD i undef = .bool (l.getD i false) := by simp [bools, List.getD_eq_getElem?_getD, h]
theorem bools_set (l : List Bool) (i : Nat) (v : Bool) : bools (l.set i v) = (bools l).set i (.bool v) := by simp [bools, List.map_set]

/-- now[i] = v. -/
theorem WhSt.setNow (h : WhSt w gl n g7 g8 g9 g10 g11 k s en γ wr) (h5 : LAt w γ5 20 gl (whS n en' s'.f) w5) (hk : ∀ k, k < 20 → γ5 k = γ k) (hen : en' 0 = .cell s'.c) (hi : s'.Inv n) {q : Nat} (hq : s'.c.q ≤ q)
    {i : Nat} {v : Int} (hin : i < n) (e1 : s'.now = s.now.set i v) (e2 : s'.told = s.told) (e3 : s'.want = s.want) (e4 : s'.got = s.got) (e5 : s'.has = s.has) :
    (∃ u, w5.cell? ⟨g7, i, none⟩ = some u) ∧ w5.frozen? ⟨g7, i, none⟩ = false ∧ ∃ γ6, WhSt w gl n g7 g8 g9 g10 g11 q s' en' γ6 (w5.setCell ⟨g7, i, none⟩ (.int .i64 v)) ∧ ∀ k, k ≠ 7 → γ6 k = γ5 k := by
  obtain ⟨g, cap, hv, hc, hf, hs⟩ := (h.now.keep (hk _ (by decide))).set1 (LinksAt.own h5) hin
  cases hv
  obtain ⟨γ6, ho6, hs6, hk6⟩ := hs (.int .i64 v)
  refine ⟨⟨_, hc⟩, hf, γ6, ⟨LinksAt.keep h5 ho6 fun k hk' => hk6 k (by omega), hen, by rw [e1, ints_set]; exact hs6, ?_, ?_, ?_, ?_, hi, hq⟩, hk6⟩
  · rw [e2]; exact (h.told.keep (hk _ (by decide))).keep (hk6 _ (by decide))
  · rw [e3]; exact (h.want.keep (hk _ (by decide))).keep (hk6 _ (by decide))
  · rw [e4]; exact (h.got.keep (hk _ (by decide))).keep (hk6 _ (by decide))
  · rw [e5]; exact (h.has.keep (hk _ (by decide))).keep (hk6 _ (by decide))

/-- One slice is copied to another. -/
theorem copy_to {t t' g g' cap cap' : Nat} {xs ys : List Int} (ho : Own w w5 γ5) (h1 : 1 ≤ n) (hs : SliceAt γ5 t 3 1 (.slice (some ⟨g, 0, none⟩) n cap) n (ints xs)) (hd : SliceAt γ5 t' 3 1 (.slice (some ⟨g', 0, none⟩) n cap') n (ints ys)) :
    ∃ cur2 : Array Value, w5.heap[g']? = some (.cells cur2 3 (0, 0)) ∧ 0 + (ints xs).length ≤ cur2.size ∧ (ints xs).length = Nat.min n n ∧ (∀ u, u ∈ ints xs → u.oneCell' = true) ∧
      (∀ (j : Nat) (u : Value), (ints xs)[j]? = some u → w5.cell? ((⟨g, 0, none⟩ : Addr).add j) = some u) ∧
      ∀ arr : Array Value, arr = (cur2.toList.take 0 ++ (ints xs ++ cur2.toList.drop (0 + (ints xs).length))).toArray →
        ∃ γ6, Own w (w5.setRow g' arr) γ6 ∧ SliceAt γ6 t' 3 1 (.slice (some ⟨g', 0, none⟩) n cap') n (ints xs) ∧ ∀ k, k ≠ t' → γ6 k = γ5 k := by
  have hl : (ints xs).length = n := by have := hs.1; omega
  obtain ⟨g1, cap1, cur1, hv1, hg1, hc1, hm1, hs1, ht1, hh1, hcell1⟩ := hs.cells_at ho h1
  obtain ⟨g2, cap2, cur2, hv2, hg2, hc2, hm2, hs2, ht2, hh2, _⟩ := hd.cells_at ho h1
  cases hv1
  cases hv2
  refine ⟨cur2, hh2, by omega, by rw [hl]; simp, ?_, hcell1, ?_⟩
  · intro u hu
    simp only [ints, List.mem_map] at hu
    obtain ⟨x, _, rfl⟩ := hu
    rfl
  · intro arr harr
    refine ⟨_, ho.row hg2 arr, ⟨by rw [hl]; omega, .inr ⟨_, _, arr, rfl, put_same _ _ _ _, hc2, hm2, ?_, ?_⟩⟩, fun k k1 => put_other _ _ _ k1⟩
    · rw [harr]; simp; omega
    · rw [harr]; simp [hl]
/-- One cell of each of two slices is written, in either order. -/
theorem set_two {t t' g g' i : Nat} {xs : List Int} {ys : List Bool} {v : Int} (ho : Own w w5 γ5) (ht : t ≠ t') (hi : i < n) (hs : SliceAt γ5 t 3 1 (.slice (some ⟨g, 0, none⟩) n n) n (ints xs)) (hd : SliceAt γ5 t' 4 1 (.slice (some ⟨g', 0, none⟩) n n) n (bools ys)) :
    (∃ u, w5.cell? ⟨g, i, none⟩ = some u) ∧ w5.frozen? ⟨g, i, none⟩ = false ∧ (∃ u, w5.cell? ⟨g', i, none⟩ = some u) ∧ w5.frozen? ⟨g', i, none⟩ = false ∧
    (∃ u, (w5.setCell ⟨g, i, none⟩ (.int .i64 v)).cell? ⟨g', i, none⟩ = some u) ∧ (w5.setCell ⟨g, i, none⟩ (.int .i64 v)).frozen? ⟨g', i, none⟩ = false ∧
    (∃ u, (w5.setCell ⟨g', i, none⟩ (.bool true)).cell? ⟨g, i, none⟩ = some u) ∧ (w5.setCell ⟨g', i, none⟩ (.bool true)).frozen? ⟨g, i, none⟩ = false ∧
    (∃ γ6, Own w ((w5.setCell ⟨g, i, none⟩ (.int .i64 v)).setCell ⟨g', i, none⟩ (.bool true)) γ6 ∧ SliceAt γ6 t 3 1 (.slice (some ⟨g, 0, none⟩) n n) n (ints (xs.set i v)) ∧ SliceAt γ6 t' 4 1 (.slice (some ⟨g', 0, none⟩) n n) n (bools (ys.set i true)) ∧ ∀ k, k ≠ t → k ≠ t' → γ6 k = γ5 k) ∧
    ∃ γ6, Own w ((w5.setCell ⟨g', i, none⟩ (.bool true)).setCell ⟨g, i, none⟩ (.int .i64 v)) γ6 ∧ SliceAt γ6 t 3 1 (.slice (some ⟨g, 0, none⟩) n n) n (ints (xs.set i v)) ∧ SliceAt γ6 t' 4 1 (.slice (some ⟨g', 0, none⟩) n n) n (bools (ys.set i true)) ∧ ∀ k, k ≠ t → k ≠ t' → γ6 k = γ5 k := by
  obtain ⟨_, _, h1, a1, a2, a3⟩ := hs.set1 ho hi
  cases h1
  obtain ⟨_, _, h1, b1, b2, b3⟩ := hd.set1 ho hi
  cases h1
  obtain ⟨γa, oa, sa, ka⟩ := a3 (.int .i64 v)
  obtain ⟨γb, ob, sb, kb⟩ := b3 (.bool true)
  obtain ⟨_, _, h1, c1, c2, c3⟩ := (hd.keep (ka t' ht.symm)).set1 oa hi
  cases h1
  obtain ⟨_, _, h1, d1, d2, d3⟩ := (hs.keep (kb t ht)).set1 ob hi
  cases h1
  obtain ⟨γc, oc, sc, kc⟩ := c3 (.bool true)
  obtain ⟨γd, od, sd, kd⟩ := d3 (.int .i64 v)
  rw [← ints_set] at sa sd
  rw [← bools_set] at sb sc
  exact ⟨⟨_, a1⟩, a2, ⟨_, b1⟩, b2, ⟨_, c1⟩, c2, ⟨_, d1⟩, d2, ⟨γc, oc, sa.keep (kc t ht), sc, fun k k1 k2 => (kc k k2).trans (ka k k1)⟩, γd, od, sd, sb.keep (kd t' ht.symm), fun k k1 k2 => (kd k k1).trans (kb k k2)⟩
end
/-- The inner loops: only the draws move. -/
def WhIn (w : World) (gl n g7 g8 g9 g10 g11 q : Nat) (s : Wh) (en : Nat → EndS) (γ : Nat → Option (Nat × Obj)) (i : Value) (wr : World) : Prop :=
  ∃ j : Nat, i = .int .i64 j ∧ j ≤ n ∧ WhSt w gl n g7 g8 g9 g10 g11 q s en γ wr
/-- The marks are struck, one by one. -/
def WhMid (w : World) (gl n g7 g8 g9 g10 g11 : Nat) (x12 : Nat × Obj) (s : Wh) (f : Int → Int → Option (Int × Int)) (en : Nat → EndS) (j : Nat) (wr : World) : Prop :=
  ∃ γ, γ 12 = some x12 ∧ LAt w γ 20 gl (whS n en f) wr ∧ SliceAt γ 7 3 1 (.slice (some ⟨g7, 0, none⟩) n n) n (ints s.now) ∧ SliceAt γ 8 3 1 (.slice (some ⟨g8, 0, none⟩) n n) n (ints s.told) ∧ SliceAt γ 9 3 1 (.slice (some ⟨g9, 0, none⟩) n n) n (ints s.told) ∧
    SliceAt γ 10 3 1 (.slice (some ⟨g10, 0, none⟩) n n) n (ints s.got) ∧ SliceAt γ 11 4 1 (.slice (some ⟨g11, 0, none⟩) n n) n (bools (List.replicate j false ++ s.has.drop j))
def WhStrike (w : World) (gl n g7 g8 g9 g10 g11 : Nat) (x12 : Nat × Obj) (s : Wh) (f : Int → Int → Option (Int × Int)) (en : Nat → EndS) (i : Value) (wr : World) : Prop :=
  ∃ j : Nat, i = .int .i64 j ∧ j ≤ n ∧ WhMid w gl n g7 g8 g9 g10 g11 x12 s f en j wr

section
variable {w w5 : World} {gl n g7 g8 g9 g10 g11 k : Nat} {s s' : Wh} {en en' : Nat → EndS} {γ γ5 : Nat → Option (Nat × Obj)} {wr : World} {f : Int → Int → Option (Int × Int)} {x12 : Nat × Obj}
theorem WhSt.toMid (h : WhSt w gl n g7 g8 g9 g10 g11 k s en γ wr) (hn : 1 ≤ n) (hx : γ 12 = some x12) (h5 : LAt w γ5 20 gl (whS n en f) w5) (hk : ∀ k, k < 20 → γ5 k = γ k) :
    ∃ cur2 : Array Value, w5.heap[g9]? = some (.cells cur2 3 (0, 0)) ∧ 0 + (ints s.told).length ≤ cur2.size ∧ (ints s.told).length = Nat.min n n ∧ (∀ u, u ∈ ints s.told → u.oneCell' = true) ∧
      (∀ (j : Nat) (u : Value), (ints s.told)[j]? = some u → w5.cell? ((⟨g8, 0, none⟩ : Addr).add j) = some u) ∧
      ∀ arr : Array Value, arr = (cur2.toList.take 0 ++ (ints s.told ++ cur2.toList.drop (0 + (ints s.told).length))).toArray → WhMid w gl n g7 g8 g9 g10 g11 x12 s f en 0 (w5.setRow g9 arr) := by
  obtain ⟨cur2, m1, m2, m3, m4, m5, m6⟩ := copy_to (LinksAt.own h5) hn (h.told.keep (hk _ (by decide))) (h.want.keep (hk _ (by decide)))
  refine ⟨cur2, m1, m2, m3, m4, m5, fun arr harr => ?_⟩
  obtain ⟨γ6, ho6, hs6, hk6⟩ := m6 arr harr
  exact ⟨γ6, (hk6 12 (by decide)).trans ((hk 12 (by decide)).trans hx), LinksAt.keep h5 ho6 fun k hk' => hk6 k (by omega), (h.now.keep (hk _ (by decide))).keep (hk6 _ (by decide)), (h.told.keep (hk _ (by decide))).keep (hk6 _ (by decide)), hs6, (h.got.keep (hk _ (by decide))).keep (hk6 _ (by decide)), (h.has.keep (hk _ (by decide))).keep (hk6 _ (by decide))⟩

theorem strike_step (l : List Bool) (j : Nat) (h : j < l.length) : (bools (List.replicate j false ++ l.drop j)).set j (.bool false) = bools (List.replicate (j + 1) false ++ l.drop (j + 1)) := by
  rw [← bools_set]
  congr 1
  rw [List.set_append_right _ _ (by simp)]
  have e : l.drop j = l[j] :: l.drop (j + 1) := List.drop_eq_getElem_cons h
  rw [e, List.length_replicate, Nat.sub_self, List.set_cons_zero, List.replicate_succ', List.append_assoc]
  rfl

theorem WhMid.step {j : Nat} (h : WhMid w gl n g7 g8 g9 g10 g11 x12 s f en j wr) (hj : j < n) :
    (∃ u, wr.cell? ⟨g11, j, none⟩ = some u) ∧ wr.frozen? ⟨g11, j, none⟩ = false ∧ WhMid w gl n g7 g8 g9 g10 g11 x12 s f en (j + 1) (wr.setCell ⟨g11, j, none⟩ (.bool false)) := by
  obtain ⟨γ, hx, hl, h7, h8, h9, h10, h11⟩ := h
  have hlen : j < s.has.length := by
    have := h11.1
    simp [bools] at this
    omega
  obtain ⟨g, cap, hv, hc, hf, hs⟩ := h11.set1 (LinksAt.own hl) hj
  cases hv
  obtain ⟨γ6, ho6, hs6, hk6⟩ := hs (.bool false)
  rw [strike_step _ _ hlen] at hs6
  exact ⟨⟨_, hc⟩, hf, γ6, (hk6 12 (by decide)).trans hx, LinksAt.keep hl ho6 fun k hk' => hk6 k (by omega), h7.keep (hk6 _ (by decide)), h8.keep (hk6 _ (by decide)), h9.keep (hk6 _ (by decide)), h10.keep (hk6 _ (by decide)), hs6⟩
theorem WhMid.own {j : Nat} (h : WhMid w gl n g7 g8 g9 g10 g11 x12 s f en j wr) : ∃ γ, Own w wr γ ∧ γ 12 = some x12 := by
  obtain ⟨γ, hx, hl, _⟩ := h
  exact ⟨γ, LinksAt.own hl, hx⟩
theorem WhMid.fin {b : Int} {len q : Nat} (h : WhMid w gl n g7 g8 g9 g10 g11 x12 s (s.rF 30 b) en n wr) (hen : en 0 = .cell s.c) (hi : s.Inv n) (hq : s.c.q ≤ q) (h1 : q ≤ len) (h2 : q ≤ 80) :
    WhAt w gl n g7 g8 g9 g10 g11 len (.bool (decide (s.rE 30 b = 0))) (.int .i64 (q : Int)) wr := by
  obtain ⟨γ, _, hl, h7, h8, h9, h10, h11⟩ := h
  have hlen : s.has.length = n := hi.ln.2.2.2
  have hr : List.replicate n false ++ s.has.drop n = List.replicate s.has.length false := by rw [hlen, List.drop_of_length_le (by omega), List.append_nil]
  rw [hr] at h11
  have hR : s.read 30 b = { s with f := s.rF 30 b, rd := decide (s.rE 30 b = 0), want := s.told, has := List.replicate s.has.length false } := if_pos rfl
  refine ⟨q, s.read 30 b, en, γ, rfl, by rw [hR], h1, h2, ?_⟩
  refine ⟨by rw [s.read_f]; exact hl, by rw [s.read_c]; exact hen, by rw [hR]; exact h7, by rw [hR]; exact h8, by rw [hR]; exact h9, by rw [hR]; exact h10, by rw [hR]; exact h11, hi.read 30 b, by rw [s.read_c]; exact hq⟩
end
end Go.Proofs.Ytniiefcbiapieaa
