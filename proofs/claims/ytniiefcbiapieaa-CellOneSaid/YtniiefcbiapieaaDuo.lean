/- A cell and the reference's, side by side; what an act comes to. -/
import Derived.Test.YtniiefcbiapieaaRefCel2
import Derived.Deep.RegionHeld3
namespace Go.Proofs.Ytniiefcbiapieaa
open Go.RowKit

def actO (d : Nat) (t i v : Int) : Obj := .cells #[.int .u8 d, .int .i64 t, .int .i64 i, .int .i64 v] 52 (0, 0)

/-- A cell (object 1), the reference's (2 and 3), an act (9); the rest as in γ0. -/
def Duo (w0 : World) (γ0 : Nat → Option (Nat × Obj)) (gp gr ga : Nat) (o : Obj) (c c' : CS) (w : World) : Prop :=
  ∃ γ, Own w0 w γ ∧ γ 1 = some (gp, cellO c) ∧ RefC γ 2 3 gr c' ∧ γ 9 = some (ga, o) ∧ ∀ k, 9 < k → γ k = γ0 k

section
variable {w0 w : World} {γ0 : Nat → Option (Nat × Obj)} {gp gr ga : Nat} {o : Obj} {c c' : CS}

theorem Duo.drewN (h : Duo w0 γ0 gp gr ga o c c' w) (n : Nat) : Duo w0 γ0 gp gr ga o c c' (w.drewN n) := by
  obtain ⟨γ, h1, h2⟩ := h
  exact ⟨γ, h1.drewN n, h2⟩
theorem Duo.drew (h : Duo w0 γ0 gp gr ga o c c' w) : Duo w0 γ0 gp gr ga o c c' w.drew := by
  obtain ⟨γ, h1, h2⟩ := h
  exact ⟨γ, h1.drew, h2⟩
theorem Duo.below' {w' : World} (h : Duo w0 γ0 gp gr ga o c c' w) (hb : Below w.heap.size w w') : Duo w0 γ0 gp gr ga o c c' w' := by
  obtain ⟨γ, h1, h2⟩ := h
  exact ⟨γ, h1.below' hb, h2⟩

/-- What the cell's functions do to it, beside the reference's. -/
theorem Duo.left {c2 : CS} {f : FuncId} {args : Array Value} {e0 : Ending} (h : Duo w0 γ0 gp gr ga o c c' w)
    (hf : ∀ γ, Own w0 w γ → γ 1 = some (gp, cellO c) → Calls Try.prog f args w fun e w' => e = e0 ∧ Own w0 w' (put γ 1 gp (cellO c2))) :
    Calls Try.prog f args w fun e w' => e = e0 ∧ Duo w0 γ0 gp gr ga o c2 c' w' := by
  obtain ⟨γ, h1, h2, h3, h4, h5⟩ := h
  refine (hf γ h1 h2).mono fun e w' ⟨he, ho⟩ => ⟨he, _, ho, put_same _ _ _ _, h3.keep (put_other _ _ _ (by decide)) (put_other _ _ _ (by decide)), ?_, fun k hk => ?_⟩
  · rw [put_other _ _ _ (by decide)]; exact h4
  · rw [put_other _ _ _ (by omega)]; exact h5 k hk
theorem Duo.left0 {f : FuncId} {args : Array Value} {e0 : Ending} (h : Duo w0 γ0 gp gr ga o c c' w)
    (hf : ∀ γ, Own w0 w γ → γ 1 = some (gp, cellO c) → Calls Try.prog f args w fun e w' => e = e0 ∧ w = w') :
    Calls Try.prog f args w fun e w' => e = e0 ∧ w = w' := by
  obtain ⟨γ, h1, h2, h3, h4, h5⟩ := h
  exact hf γ h1 h2
theorem Duo.right {c2 : CS} {f : FuncId} {args : Array Value} {e0 : Int} (h : Duo w0 γ0 gp gr ga o c c' w)
    (hf : ∀ γ, Own w0 w γ → RefC γ 2 3 gr c' → Calls Try.prog f args w (rcAfter w0 γ 2 3 gr c2 e0)) :
    Calls Try.prog f args w fun e w' => e = ans e0 ∧ Duo w0 γ0 gp gr ga o c c2 w' := by
  obtain ⟨γ, h1, h2, h3, h4, h5⟩ := h
  refine (hf γ h1 h3).mono fun e w' ⟨he, γ', ho, hr, hk⟩ => ⟨he, γ', ho, ?_, hr, ?_, fun k hk' => ?_⟩
  · rw [hk 1 (by decide) (by decide)]; exact h2
  · rw [hk 9 (by decide) (by decide)]; exact h4
  · rw [hk k (by omega) (by omega)]; exact h5 k hk'
theorem Duo.right0 {f : FuncId} {args : Array Value} {e0 : Ending} (h : Duo w0 γ0 gp gr ga o c c' w)
    (hf : ∀ γ, Own w0 w γ → RefC γ 2 3 gr c' → Calls Try.prog f args w fun e w' => e = e0 ∧ Own w0 w' γ) :
    Calls Try.prog f args w fun e w' => e = e0 ∧ Duo w0 γ0 gp gr ga o c c' w' := by
  obtain ⟨γ, h1, h2, h3, h4, h5⟩ := h
  exact (hf γ h1 h3).mono fun e w' ⟨he, ho⟩ => ⟨he, γ, ho, h2, h3, h4, h5⟩

theorem duo_start (h : Duo w0 γ0 gp gr ga o c c' w) (hc : c.Ok) : Calls Try.prog 33 #[.pointer (some ⟨gp, 0, none⟩)] w fun e w' => e = ans2 c.startN c.startE ∧ w = w' := h.left0 fun _ h1 h2 => cellStart_any h1 h2 hc
theorem duo_rstart (h : Duo w0 γ0 gp gr ga o c c' w) (hc : c'.Ok) : Calls Try.prog 50 #[.pointer (some ⟨gr, 0, none⟩)] w fun e w' => e = ans2 c'.startN c'.startE ∧ Duo w0 γ0 gp gr ga o c c' w' := h.right0 fun _ h1 h2 => rcStart_any h1 h2 hc
theorem duo_word (h : Duo w0 γ0 gp gr ga o c c' w) (hc : c.Ok) (i : Int) : Calls Try.prog 34 #[.pointer (some ⟨gp, 0, none⟩), .int .i64 i] w fun e w' => e = ans2 (c.wordN i) (c.wordE i) ∧ w = w' := h.left0 fun _ h1 h2 => cellWord_any h1 h2 hc i
theorem duo_rword (h : Duo w0 γ0 gp gr ga o c c' w) (hc : c'.Ok) (i : Int) : Calls Try.prog 51 #[.pointer (some ⟨gr, 0, none⟩), .int .i64 i] w fun e w' => e = ans2 (c'.wordN i) (c'.wordE i) ∧ Duo w0 γ0 gp gr ga o c c' w' :=
  h.right0 fun _ h1 h2 => (rcWord_any h1 h2 hc i).mono fun e w' ⟨he, hw⟩ => ⟨he, hw ▸ h1⟩
theorem duo_same (h : Duo w0 γ0 gp gr ga o c c' w) (hc : c.Ok) (n : Int) : Calls Try.prog 35 #[.pointer (some ⟨gp, 0, none⟩), .int .i64 n] w fun e w' => e = ans (c.sameE n) ∧ w = w' := h.left0 fun _ h1 h2 => cellSame_any h1 h2 hc n
theorem duo_rsame (h : Duo w0 γ0 gp gr ga o c c' w) (hc : c'.Ok) (n : Int) : Calls Try.prog 52 #[.pointer (some ⟨gr, 0, none⟩), .int .i64 n] w fun e w' => e = ans (c'.sameE n) ∧ Duo w0 γ0 gp gr ga o c c' w' := h.right0 fun _ h1 h2 => rcSame_any h1 h2 hc n
theorem duo_begin (h : Duo w0 γ0 gp gr ga o c c' w) (hc : c.Ok) (t : Int) : Calls Try.prog 36 #[.pointer (some ⟨gp, 0, none⟩), .int .i64 t] w fun e w' => e = ans (c.beginE t) ∧ Duo w0 γ0 gp gr ga o (c.begin t) c' w' := h.left fun _ h1 h2 => cellBegin_any h1 h2 hc t
theorem duo_rbegin (h : Duo w0 γ0 gp gr ga o c c' w) (hc : c'.Ok) (t : Int) : Calls Try.prog 53 #[.pointer (some ⟨gr, 0, none⟩), .int .i64 t] w fun e w' => e = ans (c'.beginE t) ∧ Duo w0 γ0 gp gr ga o c (c'.begin t) w' := h.right fun _ h1 h2 => rcBegin_any h1 h2 hc (by decide) t
theorem duo_end (h : Duo w0 γ0 gp gr ga o c c' w) (hc : c.Ok) (t : Int) : Calls Try.prog 38 #[.pointer (some ⟨gp, 0, none⟩), .int .i64 t] w fun e w' => e = ans (c.endE t) ∧ Duo w0 γ0 gp gr ga o (c.end_ t) c' w' := h.left fun _ h1 h2 => cellEnd_any h1 h2 hc t
theorem duo_rend (h : Duo w0 γ0 gp gr ga o c c' w) (hc : c'.Ok) (t : Int) : Calls Try.prog 54 #[.pointer (some ⟨gr, 0, none⟩), .int .i64 t] w fun e w' => e = ans (c'.endE t) ∧ Duo w0 γ0 gp gr ga o c (c'.end_ t) w' := h.right fun _ h1 h2 => rcEnd_any h1 h2 hc (by decide) t
theorem duo_put (h : Duo w0 γ0 gp gr ga o c c' w) (hc : c.Ok) (t i v : Int) : Calls Try.prog 37 #[.pointer (some ⟨gp, 0, none⟩), .int .i64 t, .int .i64 i, .int .i64 v] w fun e w' => e = ans (c.putE t i) ∧ Duo w0 γ0 gp gr ga o (c.put t i v) c' w' := h.left fun _ h1 h2 => cellPut_any h1 h2 hc t i v
theorem duo_rput (h : Duo w0 γ0 gp gr ga o c c' w) (hc : c'.Ok) (t i v : Int) : Calls Try.prog 55 #[.pointer (some ⟨gr, 0, none⟩), .int .i64 t, .int .i64 i, .int .i64 v] w fun e w' => e = ans (c'.putE t i) ∧ Duo w0 γ0 gp gr ga o c (c'.put t i v) w' := h.right fun _ h1 h2 => rcPut_any h1 h2 hc (by decide) t i v

theorem Duo.cells {d : Nat} {t i v : Int} (h : Duo w0 γ0 gp gr ga (actO d t i v) c c' w) :
    w.cell? ⟨ga, 0, none⟩ = some (.int .u8 d) ∧ w.cell? ⟨ga, 1, none⟩ = some (.int .i64 t) ∧ w.cell? ⟨ga, 2, none⟩ = some (.int .i64 i) ∧ w.cell? ⟨ga, 3, none⟩ = some (.int .i64 v) := by
  obtain ⟨γ, h1, h2, h3, h4, h5⟩ := h
  exact ⟨h1.cell h4 (i := 0) rfl, h1.cell h4 (i := 1) rfl, h1.cell h4 (i := 2) rfl, h1.cell h4 (i := 3) rfl⟩
end

def CS.act (c : CS) (d : Nat) (t i v : Int) : CS :=
  if d % 10 = 0 ∨ d % 10 = 1 ∨ d % 10 = 2 then c else if d % 10 = 3 ∨ d % 10 = 4 then c.begin t else if d % 10 = 5 ∨ d % 10 = 6 then c.end_ t else c.put t i v
theorem CS.Ok.act {c : CS} (h : c.Ok) (d : Nat) (t i v : Int) (hq : c.q < 999) : (c.act d t i v).Ok := by
  unfold CS.act
  repeat' split
  · exact h
  · exact h.begin t hq
  · exact h.end_ t hq
  · exact h.put t i v
theorem CS.act_q (c : CS) (d : Nat) (t i v : Int) : (c.act d t i v).q ≤ c.q + 1 := by
  unfold CS.act
  repeat' split
  · omega
  · exact c.begin_q t
  · exact c.end_q t
  · rw [c.put_q t i v]; omega
theorem CS.act_s (c : CS) (d : Nat) (t i v : Int) : (c.act d t i v).s = c.s := by
  unfold CS.act
  repeat' split
  · rfl
  · exact c.begin_s t
  · exact c.end_s t
  · exact c.put_s t i v

/-- Behind an act. -/
def doesPost (w0 : World) (γ : Nat → Option (Nat × Obj)) (gp gr : Nat) (c : CS) (e : Ending) (w' : World) : Prop :=
  e = .returned (.bool true) ∧ ∃ γ', Own w0 w' γ' ∧ γ' 1 = some (gp, cellO c) ∧ RefC γ' 2 3 gr c ∧ ∀ k, 9 < k → γ' k = γ k

theorem Duo.post {w0 w : World} {γ0 : Nat → Option (Nat × Obj)} {gp gr ga : Nat} {o : Obj} {c : CS} (h : Duo w0 γ0 gp gr ga o c c w) : doesPost w0 γ0 gp gr c (.returned (.bool true)) w := by
  obtain ⟨γ, h1, h2, h3, h4, h5⟩ := h
  exact ⟨rfl, γ, h1, h2, h3, h5⟩

theorem Duo.start {w0 w : World} {γ : Nat → Option (Nat × Obj)} (ho : Own w0 w γ) {gp gr : Nat} {c : CS} (hp : γ 1 = some (gp, cellO c)) (hr : RefC γ 2 3 gr c) (o : Obj) : Duo w0 γ gp gr w.heap.size o c c (w.alloc o) :=
  ⟨_, ho.new 9 o, by rw [put_other _ _ _ (by decide)]; exact hp, hr.keep (put_other _ _ _ (by decide)) (put_other _ _ _ (by decide)), put_same _ _ _ _, fun k hk => put_other _ _ _ (by omega)⟩

end Go.Proofs.Ytniiefcbiapieaa
