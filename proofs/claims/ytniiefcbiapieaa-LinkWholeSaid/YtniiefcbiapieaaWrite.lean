/- What a writer does (function 32): the cell, what it has now, what was told last. -/
import Derived.Test.YtniiefcbiapieaaRefCel2
import Derived.Laws.CopyOwn
import Derived.Deep.CutBlock
namespace Go.Proofs.Ytniiefcbiapieaa
open Go.RowKit

/-- The object named t is written whole. -/
theorem Own.row {w0 w : World} {γ : Nat → Option (Nat × Obj)} (h : Own w0 w γ) {t g : Nat} {ty : TypeId} {cs : Array Value} {fr : Nat × Nat} (hg : γ t = some (g, .cells cs ty fr)) (cs' : Array Value) :
    Own w0 (w.setRow g cs') (put γ t g (.cells cs' ty fr)) := by
  have hb := (h.own t g _ hg).1
  refine ⟨below_setRow h.below hb cs', fun k g' o' hk => ?_, fun k k' g' o1 o2 h1 h2 => ?_⟩
  · by_cases e : k = t
    · subst e
      rw [put_same] at hk
      cases hk
      exact ⟨hb, setRow_heap w g _ _ _ _ (h.own k _ _ hg).2⟩
    · rw [put_other _ _ _ e] at hk
      have hne : g' ≠ g := fun e2 => by subst e2; exact e (h.inj _ _ _ _ _ hk hg)
      exact ⟨(h.own k g' o' hk).1, (setRow_other w g g' _ hne).trans (h.own k g' o' hk).2⟩
  · by_cases e : k = t
    · by_cases e' : k' = t
      · rw [e, e']
      · subst e
        rw [put_same] at h1
        rw [put_other _ _ _ e'] at h2
        cases h1
        exact (h.inj _ _ _ _ _ h2 hg).symm
    · by_cases e' : k' = t
      · subst e'
        rw [put_same] at h2
        rw [put_other _ _ _ e] at h1
        cases h2
        exact h.inj _ _ _ _ _ h1 hg
      · rw [put_other _ _ _ e] at h1
        rw [put_other _ _ _ e'] at h2
        exact h.inj k k' g' o1 o2 h1 h2

structure WS where
  c : CS
  now : List Int
  told : List Int

def WS.write (s : WS) (d : Nat) (t i v : Int) : WS :=
  if d % 4 = 0 then { s with c := s.c.begin t }
  else if d % 4 = 1 then { s with c := s.c.end_ t, told := if s.c.endE t = 0 then s.now else s.told }
  else { s with c := s.c.put t i v, now := if s.c.putE t i = 0 then s.now.set i.toNat v else s.now }

/-- The three objects. -/
structure WAt (w0 : World) (γ : Nat → Option (Nat × Obj)) (gp n : Nat) (nv tv : Value) (s : WS) (w : World) : Prop where
  own : Own w0 w γ
  c : γ 1 = some (gp, cellO s.c)
  now : SliceAt γ 11 3 1 nv n (ints s.now)
  told : SliceAt γ 10 3 1 tv n (ints s.told)
  ok : s.c.Ok
  cs : s.c.s = n

def writePost (w0 : World) (γ : Nat → Option (Nat × Obj)) (gp n : Nat) (nv tv : Value) (s : WS) (e : Ending) (w' : World) : Prop :=
  e = .returned (.tuple #[]) ∧ ∃ γ', WAt w0 γ' gp n nv tv s w' ∧ ∀ k, 11 < k → γ' k = γ k

section
variable {w0 w : World} {γ : Nat → Option (Nat × Obj)} {gp n : Nat} {nv tv : Value} {s : WS}

theorem WAt.box (h : WAt w0 γ gp n nv tv s w) (o : Obj) : WAt w0 (put γ 9 w.heap.size o) gp n nv tv s (w.alloc o) :=
  ⟨h.own.new 9 o, by rw [put_other _ _ _ (by decide)]; exact h.c, h.now.keep (put_other _ _ _ (by decide)), h.told.keep (put_other _ _ _ (by decide)), h.ok, h.cs⟩

theorem WAt.cell {c' : CS} {w' : World} (h : WAt w0 γ gp n nv tv s w) (ho : Own w0 w' (put γ 1 gp (cellO c'))) (hok : c'.Ok) (hs : c'.s = n) : WAt w0 (put γ 1 gp (cellO c')) gp n nv tv { s with c := c' } w' :=
  ⟨ho, put_same _ _ _ _, h.now.keep (put_other _ _ _ (by decide)), h.told.keep (put_other _ _ _ (by decide)), hok, hs⟩

def actO' (d : Nat) (t i v : Int) : Obj := .cells #[.int .u8 d, .int .i64 t, .int .i64 i, .int .i64 v] 52 (0, 0)

theorem WAt.cells {g9 d : Nat} {t i v : Int} (h : WAt w0 γ gp n nv tv s w) (h9 : γ 9 = some (g9, actO' d t i v)) :
    w.cell? ⟨g9, 0, none⟩ = some (.int .u8 d) ∧ w.cell? ⟨g9, 1, none⟩ = some (.int .i64 t) ∧ w.cell? ⟨g9, 2, none⟩ = some (.int .i64 i) ∧ w.cell? ⟨g9, 3, none⟩ = some (.int .i64 v) :=
  ⟨h.own.cell h9 (i := 0) rfl, h.own.cell h9 (i := 1) rfl, h.own.cell h9 (i := 2) rfl, h.own.cell h9 (i := 3) rfl⟩

set_option maxHeartbeats 2000000 in
set_option maxRecDepth 20000 in
theorem write0 (h : WAt w0 γ gp n nv tv s w) (hq : s.c.q < 999) (d : Nat) (t i v : Int) (hm : (d : Int) % 4 = 0) :
    Calls Try.prog 32 #[.pointer (some ⟨gp, 0, none⟩), nv, tv, .agg #[.int .u8 d, .int .i64 t, .int .i64 i, .int .i64 v]] w (writePost w0 γ gp n nv tv (s.write d t i v)) := by
  have h1 := h.box (actO' d t i v)
  have k9 : put γ 9 w.heap.size (actO' d t i v) 9 = some (w.heap.size, actO' d t i v) := put_same _ _ _ _
  have hk : ∀ k, 11 < k → put γ 9 w.heap.size (actO' d t i v) k = γ k := fun k hk => put_other _ _ _ (by omega)
  obtain ⟨q0, q1, q2, q3⟩ := h1.cells k9
  have hb := cellBegin_any h1.own h1.c h1.ok t
  have hfin : ∀ w', Own w0 w' (put (put γ 9 w.heap.size (actO' d t i v)) 1 gp (cellO (s.c.begin t))) → writePost w0 γ gp n nv tv (s.write d t i v) (.returned (.tuple #[])) w' := by
    intro w' ho
    have e : s.write d t i v = { s with c := s.c.begin t } := if_pos (by omega)
    rw [e]
    exact ⟨rfl, _, h1.cell ho (h.ok.begin t hq) ((s.c.begin_s t).trans h.cs), fun k k1 => by rw [put_other _ _ _ (by omega)]; exact hk k k1⟩
  unfold actO' at q0 q1 q2 q3 hb
  clear h1 k9 hk h
  go_enter Try.func32, Try.ntmps32
  go_wp2_with fail
  refine hb.mono ?_
  rintro e w1 ⟨rfl, ho⟩
  have hf := hfin _ ho
  rw [ans_eq]
  clear hfin hb
  go_wp2_with fail
  go_end0
  exact hf

theorem SliceAt.cells_at {w0 w : World} {γ : Nat → Option (Nat × Obj)} {t e n : Nat} {v : Value} {xs : List Value} (hs : SliceAt γ t e 1 v n xs) (h : Own w0 w γ) (h1 : 1 ≤ n) :
    ∃ g cap cur, v = .slice (some ⟨g, 0, none⟩) n cap ∧ γ t = some (g, .cells cur e (0, 0)) ∧ n ≤ cap ∧ cap ≤ maxLen ∧ cur.size = cap ∧ cur.toList.take n = xs ∧ w.heap[g]? = some (.cells cur e (0, 0)) ∧
      ∀ (j : Nat) (u : Value), xs[j]? = some u → w.cell? ((⟨g, 0, none⟩ : Addr).add j) = some u := by
  rcases hs.2 with ⟨_, h0⟩ | ⟨g, cap, cur, rfl, h2, h3, h4, h5, h6⟩
  · omega
  · refine ⟨g, cap, cur, rfl, h2, h3, h4, by simpa using h5, by simpa using h6, (h.own _ _ _ h2).2, fun j u hj => ?_⟩
    have hjl : j < n := by
      have := (List.getElem?_eq_some_iff.1 hj).1
      rw [hs.1] at this
      omega
    obtain ⟨g2, cap2, hv2, hc2⟩ := hs.at_ h hjl
    cases hv2
    rw [List.getD_eq_getElem?_getD, hj] at hc2
    by_cases j0 : j = 0
    · subst j0; exact hc2
    · simpa [Addr.add, j0] using hc2

set_option maxHeartbeats 2000000 in
set_option maxRecDepth 20000 in
theorem write1 (h : WAt w0 γ gp n nv tv s w) (hq : s.c.q < 999) (d : Nat) (t i v : Int) (hm : (d : Int) % 4 = 1) :
    Calls Try.prog 32 #[.pointer (some ⟨gp, 0, none⟩), nv, tv, .agg #[.int .u8 d, .int .i64 t, .int .i64 i, .int .i64 v]] w (writePost w0 γ gp n nv tv (s.write d t i v)) := by
  have h1 := h.box (actO' d t i v)
  have k9 : put γ 9 w.heap.size (actO' d t i v) 9 = some (w.heap.size, actO' d t i v) := put_same _ _ _ _
  have hk : ∀ k, 11 < k → put γ 9 w.heap.size (actO' d t i v) k = γ k := fun k hk => put_other _ _ _ (by omega)
  obtain ⟨q0, q1, q2, q3⟩ := h1.cells k9
  have hb := cellEnd_any h1.own h1.c h1.ok t
  have e : s.write d t i v = { s with c := s.c.end_ t, told := if s.c.endE t = 0 then s.now else s.told } := by
    unfold WS.write
    rw [if_neg (by omega), if_pos (by omega)]
  have hn1 : 1 ≤ n := by rw [← h.cs]; exact h.ok.lo
  have hno : s.c.endE t ≠ 0 → ∀ w', Own w0 w' (put (put γ 9 w.heap.size (actO' d t i v)) 1 gp (cellO (s.c.end_ t))) → writePost w0 γ gp n nv tv (s.write d t i v) (.returned (.tuple #[])) w' := by
    intro hne w' ho
    rw [e, if_neg hne]
    exact ⟨rfl, _, h1.cell ho (h.ok.end_ t hq) ((s.c.end_s t).trans h.cs), fun k k1 => by rw [put_other _ _ _ (by omega)]; exact hk k k1⟩
  by_cases he : s.c.endE t = 0
  · rw [he] at hb
    have hW : ∀ w', Own w0 w' (put (put γ 9 w.heap.size (actO' d t i v)) 1 gp (cellO (s.c.end_ t))) → WAt w0 (put (put γ 9 w.heap.size (actO' d t i v)) 1 gp (cellO (s.c.end_ t))) gp n nv tv { s with c := s.c.end_ t } w' :=
      fun w' ho => h1.cell ho (h.ok.end_ t hq) ((s.c.end_s t).trans h.cs)
    have hk1 : ∀ k, 11 < k → put (put γ 9 w.heap.size (actO' d t i v)) 1 gp (cellO (s.c.end_ t)) k = γ k := fun k k1 => by rw [put_other _ _ _ (by omega)]; exact hk k k1
    generalize put (put γ 9 w.heap.size (actO' d t i v)) 1 gp (cellO (s.c.end_ t)) = γ1 at *
    have hlen : (ints s.now).length = n := by have := h.now.1; omega
    obtain ⟨gn, capn, curn, rfl, hgn, _⟩ := h.now.cells_at h.own hn1
    obtain ⟨gt, capt, curt, rfl, hgt, _⟩ := h.told.cells_at h.own hn1
    unfold actO' at q0 q1 q2 q3 hb
    clear h1 k9 hk h hno hgn hgt
    go_enter Try.func32, Try.ntmps32
    go_wp2_with fail
    refine hb.mono ?_
    rintro e' w1 ⟨rfl, ho⟩
    have hw := hW _ ho
    rw [ans_eq]
    clear hW hb
    obtain ⟨g1, cap1, cur1, hv1, hg1, hc1, hm1, hs1, ht1, hh1, hcell1⟩ := hw.now.cells_at hw.own hn1
    obtain ⟨g2, cap2, cur2, hv2, hg2, hc2, hm2, hs2, ht2, hh2, _⟩ := hw.told.cells_at hw.own hn1
    cases hv1
    cases hv2
    simp only [] at hg1 ht1 hcell1
    obtain ⟨cs, hcs⟩ : ∃ cs, cs = ints s.now := ⟨_, rfl⟩
    have hfin : ∀ arr : Array Value, arr = (cur2.toList.take 0 ++ (cs ++ cur2.toList.drop (0 + cs.length))).toArray → writePost w0 γ gp n (.slice (some ⟨gn, 0, none⟩) n capn) (.slice (some ⟨gt, 0, none⟩) n capt) (s.write d t i v) (.returned (.tuple #[])) (w1.setRow gt arr) := by
      intro arr harr
      have hr := hw.own.row hg2 arr
      rw [e, if_pos he]
      have hcl : cs.length = n := by rw [hcs]; exact hlen
      refine ⟨rfl, _, ⟨hr, ?_, ?_, ⟨by rw [hlen]; omega, .inr ⟨gt, capt, arr, rfl, put_same _ _ _ _, hc2, hm2, ?_, ?_⟩⟩, hw.ok, hw.cs⟩, fun k k1 => by rw [put_other _ _ _ (by omega)]; exact hk1 k k1⟩
      · rw [put_other _ _ _ (by decide)]; exact hw.c
      · exact hw.now.keep (put_other _ _ _ (by decide))
      · rw [harr]; simp; omega
      · rw [harr, ← hcs]; simp [hcl]
    have hx1 : ∀ u ∈ cs, u.oneCell' = true := by
      intro u hu
      rw [hcs] at hu
      simp only [ints, List.mem_map] at hu
      obtain ⟨x, _, rfl⟩ := hu
      rfl
    have hx2 : cs.length = Nat.min n n := by rw [hcs, hlen]; simp
    have hx3 : 0 + cs.length ≤ cur2.size := by rw [hcs, hlen]; omega
    have hx4 : (Try.prog.info? 3).map (·.size) = some 1 := by kernel_rfl
    rw [← hcs] at hcell1
    clear hcs hw e hk1 hlen hs1 ht1 hs2 ht2 hg1 hg2
    go_upto_region 8 with (fail)
    go_wp2_with (refine wpList_copy_own rfl (.tmp 51) (.tmp 52) 37 37 rfl 3 Try.underlying37 hx4 gt 0 n capt ⟨gn, 0, none⟩ n capn rfl rfl cur2 3 hh2 cs hx2 hcell1 hx3 hx1 ?_)
    go_end0
    exact hfin _ rfl
  · have hq' := hno he
    clear hno e
    generalize s.c.endE t = ee at *
    have hee : (ee == 0) = false := by simpa using he
    unfold actO' at q0 q1 q2 q3 hb
    clear h1 k9 hk h he
    go_enter Try.func32, Try.ntmps32
    go_wp2_with fail
    refine hb.mono ?_
    rintro e' w1 ⟨rfl, ho⟩
    have hf := hq' _ ho
    rw [ans_eq]
    clear hq' hb
    go_wp2_with fail
    go_end0
    exact hf

theorem putE_zero {c : CS} {t i : Int} (h : c.putE t i = 0) : 0 ≤ i ∧ i < c.s := by
  unfold CS.putE at h
  by_cases h1 : t < 1 ∨ i < 0 ∨ (c.s : Int) ≤ i
  · rw [if_pos h1] at h; cases h
  · omega

set_option maxHeartbeats 2000000 in
set_option maxRecDepth 20000 in
theorem write2 (h : WAt w0 γ gp n nv tv s w) (hq : s.c.q < 999) (d : Nat) (t i v : Int) (m0 : ((d : Int) % 4 == 0) = false) (m1 : ((d : Int) % 4 == 1) = false) :
    Calls Try.prog 32 #[.pointer (some ⟨gp, 0, none⟩), nv, tv, .agg #[.int .u8 d, .int .i64 t, .int .i64 i, .int .i64 v]] w (writePost w0 γ gp n nv tv (s.write d t i v)) := by
  have h1 := h.box (actO' d t i v)
  have k9 : put γ 9 w.heap.size (actO' d t i v) 9 = some (w.heap.size, actO' d t i v) := put_same _ _ _ _
  have hk : ∀ k, 11 < k → put γ 9 w.heap.size (actO' d t i v) k = γ k := fun k hk => put_other _ _ _ (by omega)
  obtain ⟨q0, q1, q2, q3⟩ := h1.cells k9
  have hb := cellPut_any h1.own h1.c h1.ok t i v
  have e : s.write d t i v = { s with c := s.c.put t i v, now := if s.c.putE t i = 0 then s.now.set i.toNat v else s.now } := by
    unfold WS.write
    simp at m0 m1
    rw [if_neg (by omega), if_neg (by omega)]
  have hW : ∀ w', Own w0 w' (put (put γ 9 w.heap.size (actO' d t i v)) 1 gp (cellO (s.c.put t i v))) → WAt w0 (put (put γ 9 w.heap.size (actO' d t i v)) 1 gp (cellO (s.c.put t i v))) gp n nv tv { s with c := s.c.put t i v } w' :=
    fun w' ho => h1.cell ho (h.ok.put t i v) ((s.c.put_s t i v).trans h.cs)
  have hk1 : ∀ k, 11 < k → put (put γ 9 w.heap.size (actO' d t i v)) 1 gp (cellO (s.c.put t i v)) k = γ k := fun k k1 => by rw [put_other _ _ _ (by omega)]; exact hk k k1
  have k91 : put (put γ 9 w.heap.size (actO' d t i v)) 1 gp (cellO (s.c.put t i v)) 9 = some (w.heap.size, actO' d t i v) := by rw [put_other _ _ _ (by decide)]; exact k9
  generalize put (put γ 9 w.heap.size (actO' d t i v)) 1 gp (cellO (s.c.put t i v)) = γ1 at *
  by_cases he : s.c.putE t i = 0
  · obtain ⟨i0, i1⟩ := putE_zero he
    rw [h.cs] at i1
    rw [he] at hb
    have hn1 : 1 ≤ n := by rw [← h.cs]; exact h.ok.lo
    obtain ⟨gn, capn, curn, rfl, hgn, _⟩ := h.now.cells_at h.own hn1
    unfold actO' at q0 q1 q2 q3 hb
    clear h1 k9 hk h hgn
    go_enter Try.func32, Try.ntmps32
    go_wp2_with fail
    refine hb.mono ?_
    rintro e' w1 ⟨rfl, ho⟩
    have hw := hW _ ho
    obtain ⟨r0, r1, r2, r3⟩ := hw.cells k91
    obtain ⟨k, rfl⟩ : ∃ k : Nat, i = k := ⟨i.toNat, by omega⟩
    have hkn : k < n := by omega
    obtain ⟨g3, cap3, hv3, hc3, f3, hset⟩ := hw.now.set1 hw.own hkn
    cases hv3
    obtain ⟨γ2, ho2, hs2, hk2⟩ := hset (.int .i64 v)
    have hfin : writePost w0 γ gp n (.slice (some ⟨gn, 0, none⟩) n capn) tv (s.write d t k v) (.returned (.tuple #[])) (w1.setCell ⟨gn, k, none⟩ (.int .i64 v)) := by
      rw [e, if_pos he]
      refine ⟨rfl, γ2, ⟨ho2, (hk2 1 (by decide)).trans hw.c, ?_, hw.told.keep (hk2 10 (by decide)), hw.ok, hw.cs⟩, fun k' k1 => (hk2 k' (by omega)).trans (hk1 k' k1)⟩
      have e2 : ints (s.now.set (k : Int).toNat v) = (ints s.now).set k (.int .i64 v) := by simp [ints, List.map_set]
      show SliceAt γ2 11 3 1 _ n (ints (s.now.set (k : Int).toNat v))
      rw [e2]
      exact hs2
    rw [ans_eq]
    generalize (ints s.now).getD k undef = u0 at hc3
    clear hW hb hw hset ho2 hs2 hk2 e hk1 k91 he ho
    go_wp2_with fail
    go_end0
    exact hfin
  · have hee : (s.c.putE t i == 0) = false := by simpa using he
    have hfin : ∀ w', Own w0 w' γ1 → writePost w0 γ gp n nv tv (s.write d t i v) (.returned (.tuple #[])) w' := fun w' ho => by
      rw [e, if_neg he]
      exact ⟨rfl, γ1, hW _ ho, hk1⟩
    generalize s.c.putE t i = ee at *
    unfold actO' at q0 q1 q2 q3 hb
    clear h1 k9 hk h he e hW hk1 k91
    go_enter Try.func32, Try.ntmps32
    go_wp2_with fail
    refine hb.mono ?_
    rintro e' w1 ⟨rfl, ho⟩
    have hf := hfin _ ho
    rw [ans_eq]
    clear hfin hb
    go_wp2_with fail
    go_end0
    exact hf

theorem write_any (h : WAt w0 γ gp n nv tv s w) (hq : s.c.q < 999) (d : Nat) (t i v : Int) :
    Calls Try.prog 32 #[.pointer (some ⟨gp, 0, none⟩), nv, tv, .agg #[.int .u8 d, .int .i64 t, .int .i64 i, .int .i64 v]] w (writePost w0 γ gp n nv tv (s.write d t i v)) := by
  by_cases h0 : d % 4 = 0
  · exact write0 h hq d t i v (by omega)
  · by_cases h1 : d % 4 = 1
    · exact write1 h hq d t i v (by omega)
    · exact write2 h hq d t i v (by simp; omega) (by simp; omega)
end
end Go.Proofs.Ytniiefcbiapieaa
