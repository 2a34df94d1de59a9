/- A region that draws its order, operation by operation: what each leaves, whatever came between. -/
import Derived.Orders
import Derived.KernelRfl
import Derived.WalkKit
namespace Go.Proofs.Ytniiefcbiapieaa
open Go

/-- What stands in an operation's slot. -/
def slotOf (a : Act) (o : Oper) : Value := match o.dst with
  | some d => a.tmps.getD d undef
  | none => undef

/-- Does operation i wait for operation j? -/
def waitsFor (ops : Array Oper) (i j : Nat) : Bool := ((ops[i]?).map fun o => o.after.any fun e => Region.binds .any e && e.on == j).getD false

/-- Slot s is written, in this region, by operations alone that come behind i (or by i). -/
def untouched (ops : Array Oper) (i : Nat) (s : Tmp) : Bool := (List.range ops.size).all fun j => j == i || waitsFor ops j i || (((ops[j]?).bind (·.dst)) != some s)

/-- Each operation waits for earlier ones alone; no two write one slot; each slot is there. -/
def inOrder (ops : Array Oper) (n : Nat) : Bool := (List.range ops.size).all fun i => ((ops[i]?).map fun o =>
  (o.after.all fun e => !Region.binds .any e || decide (e.on < i)) &&
  (match o.dst with
   | some d => decide (d < n) && (List.range ops.size).all fun j => j == i || (((ops[j]?).bind (·.dst)) != some d)
   | none => true)).getD true

section
variable {P : Program} {ops : Array Oper} {Γ : Type}

/-- How the region stands when the listed operations have run. -/
structure Stands (ops : Array Oper) (R : Γ → World → Prop) (φ : Nat → Value → Γ → Prop) (ψ : Nat → Γ → Prop) (a0 : Act) (listed : Array Bool) (a : Act) (w : World) (γ : Γ) : Prop where
  rel : R γ w
  size : listed.size = ops.size
  defers : a.defers = a0.defers
  slots : a.tmps.size = a0.tmps.size
  rest : ∀ s, (∀ j : Nat, listed.getD j false = true → ((ops[j]?).bind (·.dst)) ≠ some s) → a.tmps.getD s undef = a0.tmps.getD s undef
  done : ∀ (j : Nat) o, ops[j]? = some o → listed.getD j false = true → φ j (slotOf a o) γ
  open_ : ∀ (j : Nat), j < ops.size → listed.getD j false = false → ψ j γ
  closed : ∀ (j k : Nat), listed.getD j false = true → waitsFor ops j k = true → listed.getD k false = true

/-- Behind operation i: its value is in its slot, and all that held of the others holds. -/
def EachPost (R : Γ → World → Prop) (φ : Nat → Value → Γ → Prop) (ψ : Nat → Γ → Prop) (i : Nat) (dst : Option Tmp) (a : Act) (γ : Γ) (a' : Act) (w' : World) : Prop :=
  ∃ v γ', a' = a.put dst v ∧ R γ' w' ∧ φ i v γ' ∧ (∀ j u, j ≠ i → φ j u γ → φ j u γ') ∧ (∀ j, j ≠ i → ψ j γ → ψ j γ')

theorem EachPost.same {R : Γ → World → Prop} {φ : Nat → Value → Γ → Prop} {ψ : Nat → Γ → Prop} {i : Nat} {dst : Option Tmp} {a : Act} {γ : Γ} {a' : Act} {w' : World} {v : Value}
    (h : a' = a.put dst v) (hR : R γ w') (hv : φ i v γ) : EachPost R φ ψ i dst a γ a' w' := ⟨v, γ, h, hR, hv, fun _ _ _ h => h, fun _ _ h => h⟩

/-- What is asked of operation i: in whatever frame and world it comes up. -/
def EachOp (P : Program) (ops : Array Oper) (R : Γ → World → Prop) (φ : Nat → Value → Γ → Prop) (ψ : Nat → Γ → Prop) (a0 : Act) (i : Nat) (o : Oper) : Prop :=
  ∀ (a : Act) (w : World) (γ : Γ), R γ w → (∀ s, untouched ops i s = true → a.tmps.getD s undef = a0.tmps.getD s undef) →
    (∀ (j : Nat) oj, waitsFor ops i j = true → ops[j]? = some oj → φ j (slotOf a oj) γ) → ψ i γ → (∀ j, waitsFor ops j i = true → ψ j γ) →
    if Region.wanted o (yielded ops a.tmps) then
      o.wp P a w (EachPost R φ ψ i o.dst a γ) (fun _ _ _ => False)
    else φ i undef γ

theorem Oper.upon_weak {o : Oper} {a : Act} {K K' : Act → World → Prop} {Q : Exit → Act → World → Prop} (hK : ∀ a w, K a w → K' a w) {r : Result Next} (h : o.upon P a K (fun _ _ _ => False) r) : o.upon P a K' Q r := by
  cases r with
  | ok n w' =>
    cases n <;> simp only [Oper.upon] at h ⊢ <;>
      first
        | exact hK _ _ h
        | exact h.elim
        | exact Calls.mono h (fun e w'' he => by
            cases e with
            | returned v => exact hK _ _ he
            | panicked c => exact (he : False).elim
            | outgrown => obtain ⟨_, _, hx⟩ := he; exact (hx : False).elim)
        | exact Rows.mono h (fun _ _ he => hK _ _ he)
  | halt x w' => cases x <;> simp only [Oper.upon] at h ⊢

theorem getD_set {listed : Array Bool} {i j : Nat} (hi : i < listed.size) : (listed.setIfInBounds i true).getD j false = (if j = i then true else listed.getD j false) := by
  simp only [Array.getD_eq_getD_getElem?, Array.getElem?_setIfInBounds]
  by_cases e : i = j
  · subst e; simp [hi]
  · simp [e, Ne.symm e]

theorem slot_put_same {a : Act} {o : Oper} {v : Value} (h : ∀ d, o.dst = some d → d < a.tmps.size) (hn : o.dst = none → v = undef) : slotOf (a.put o.dst v) o = v := by
  unfold slotOf Act.put
  cases hd : o.dst with
  | none => exact (hn hd).symm
  | some d => simp [Array.getD_eq_getD_getElem?, h d hd]

theorem slot_put_other {a : Act} {d : Option Tmp} {s : Tmp} {v : Value} (h : d ≠ some s) : (a.put d v).tmps.getD s undef = a.tmps.getD s undef := by
  unfold Act.put
  cases d with
  | none => rfl
  | some d =>
    have : d ≠ s := fun e => h (by rw [e])
    simp [Array.getD_eq_getD_getElem?, Array.getElem?_setIfInBounds, this]

theorem each_any {R : Γ → World → Prop} {φ : Nat → Value → Γ → Prop} {ψ : Nat → Γ → Prop} {a0 : Act} {Q : Exit → Act → World → Prop} (hio : inOrder ops a0.tmps.size = true)
    (hφ : ∀ i o, ops[i]? = some o → o.dst = none → ∀ v γ, φ i v γ → φ i undef γ)
    (hop : ∀ i o, ops[i]? = some o → EachOp P ops R φ ψ a0 i o)
    (hfin : ∀ a w γ, R γ w → a.defers = a0.defers → a.tmps.size = a0.tmps.size → (∀ (j : Nat) o, ops[j]? = some o → φ j (slotOf a o) γ) →
      (∀ s, (∀ j : Nat, ((ops[j]?).bind (·.dst)) ≠ some s) → a.tmps.getD s undef = a0.tmps.getD s undef) → Q .normal a w) :
    ∀ (fuel : Nat) (listed : Array Bool) (a : Act) (w : World) (γ : Γ), Stands ops R φ ψ a0 listed a w γ → ((List.range ops.size).filter fun j => listed.getD j false == false).length ≤ fuel → wpAny P .any ops Q fuel listed a w := by
  have spec : ∀ i o, ops[i]? = some o → (∀ e ∈ o.after, Region.binds .any e = true → e.on < i) ∧ (∀ d, o.dst = some d → d < a0.tmps.size ∧ ∀ j, j ≠ i → ((ops[j]?).bind (·.dst)) ≠ some d) := by
    intro i o hi
    have hlt : i < ops.size := (Array.getElem?_eq_some_iff.1 hi).1
    have h := (List.all_eq_true.1 hio) i (List.mem_range.2 hlt)
    rw [hi] at h
    simp only [Option.map_some, Option.getD_some, Bool.and_eq_true] at h
    refine ⟨fun e he hb => ?_, fun d hd => ?_⟩
    · have := Array.all_eq_true_iff_forall_mem.1 h.1 e he
      simp [hb] at this
      exact this
    · have h2 := h.2
      rw [hd] at h2
      simp only [Bool.and_eq_true, decide_eq_true_eq, List.all_eq_true, List.mem_range] at h2
      refine ⟨h2.1, fun j hne => ?_⟩
      by_cases hj : j < ops.size
      · have := h2.2 j hj
        simp [hne] at this
        simpa using this
      · have : ops[j]? = none := Array.getElem?_eq_none (by omega)
        rw [this]; simp
  -- if nothing may come up, all is listed
  have alldone : ∀ listed : Array Bool, listed.size = ops.size → Region.ready .any ops listed = [] → ∀ n, n ≤ ops.size → ∀ j, j < n → listed.getD j false = true := by
    intro listed hs hr n
    induction n with
    | zero => intro _ j h; omega
    | succ n ih =>
      intro hn j hj
      by_cases e : j < n
      · exact ih (by omega) j e
      · have hjn : j = n := by omega
        subst hjn
        cases hl : listed.getD j false with
        | true => rfl
        | false =>
          exfalso
          obtain ⟨o, ho⟩ : ∃ o, ops[j]? = some o := ⟨ops[j], Array.getElem?_eq_getElem (by omega)⟩
          have hmem : j ∈ Region.ready .any ops listed := by
            unfold Region.ready
            rw [List.mem_filter]
            refine ⟨List.mem_range.2 (by omega), ?_⟩
            have hl' : listed.getD j true = false := by
              rw [Array.getD_eq_getD_getElem?, Array.getElem?_eq_getElem (by omega)] at hl ⊢
              simpa using hl
            rw [hl', ho]
            simp only [Bool.not_false, Bool.true_and, Option.map_some, Option.getD_some]
            rw [Array.all_eq_true_iff_forall_mem]
            intro e he
            cases hb : Region.binds .any e with
            | false => rfl
            | true =>
              have := (spec j o ho).1 e he hb
              simp [ih (by omega) e.on this]
          rw [hr] at hmem
          cases hmem
  have finish : ∀ (listed : Array Bool) (a : Act) (w : World) (γ : Γ), Stands ops R φ ψ a0 listed a w γ → Region.ready .any ops listed = [] → Q .normal a w := by
    intro listed a w γ hst hr
    have hall := alldone listed hst.size hr ops.size (Nat.le_refl _)
    refine hfin a w γ hst.rel hst.defers hst.slots (fun j o hj => hst.done j o hj (hall j (Array.getElem?_eq_some_iff.1 hj).1)) (fun s hs => hst.rest s fun j _ => hs j)
  intro fuel
  induction fuel with
  | zero =>
    intro listed a w γ hst hf
    have hempty : ((List.range ops.size).filter fun j => listed.getD j false == false) = [] := List.length_eq_zero_iff.1 (by omega)
    have hr : Region.ready .any ops listed = [] := by
      rw [List.eq_nil_iff_forall_not_mem]
      intro j hj
      unfold Region.ready at hj
      rw [List.mem_filter] at hj
      obtain ⟨hj1, hj2⟩ := hj
      have hmem : j ∈ ((List.range ops.size).filter fun j => listed.getD j false == false) := by
        rw [List.mem_filter]
        refine ⟨hj1, ?_⟩
        simp only [Bool.and_eq_true, Bool.not_eq_true'] at hj2
        have hlt := List.mem_range.1 hj1
        have h1 := hj2.1
        rw [Array.getD_eq_getD_getElem?, Array.getElem?_eq_getElem (by rw [hst.size]; exact hlt)] at h1 ⊢
        simpa using h1
      rw [hempty] at hmem
      cases hmem
    exact ⟨hr, finish listed a w γ hst hr⟩
  | succ fuel ih =>
    intro listed a w γ hst hf
    refine ⟨fun hr => finish listed a w γ hst hr, fun i hi => ?_⟩
    unfold Region.ready at hi
    rw [List.mem_filter] at hi
    obtain ⟨hi1, hi2⟩ := hi
    have hlt := List.mem_range.1 hi1
    have hsz : i < listed.size := by rw [hst.size]; exact hlt
    simp only [Bool.and_eq_true, Bool.not_eq_true'] at hi2
    obtain ⟨hi2, hi3⟩ := hi2
    have hli : listed.getD i false = false := by
      rw [Array.getD_eq_getD_getElem?, Array.getElem?_eq_getElem hsz] at hi2 ⊢
      simpa using hi2
    obtain ⟨o, ho⟩ : ∃ o, ops[i]? = some o := ⟨ops[i], Array.getElem?_eq_getElem hlt⟩
    rw [ho] at hi3
    simp only [Option.map_some, Option.getD_some] at hi3
    have hdep : ∀ j, waitsFor ops i j = true → listed.getD j false = true := by
      intro j hj
      unfold waitsFor at hj
      rw [ho] at hj
      simp only [Option.map_some, Option.getD_some] at hj
      rw [← Array.any_toList, List.any_eq_true] at hj
      obtain ⟨e, he, hb⟩ := hj
      have he := Array.mem_toList_iff.1 he
      simp only [Bool.and_eq_true, beq_iff_eq] at hb
      have := Array.all_eq_true_iff_forall_mem.1 hi3 e he
      rw [hb.1] at this
      rw [← hb.2]
      simpa using this
    have hnot : ∀ j, waitsFor ops j i = true → listed.getD j false = false := by
      intro j hj
      cases hl : listed.getD j false with
      | false => rfl
      | true => rw [hst.closed j i hl hj] at hli; cases hli
    have hlts : ∀ j, waitsFor ops j i = true → j < ops.size := by
      intro j hj
      by_cases h : j < ops.size
      · exact h
      · unfold waitsFor at hj
        rw [Array.getElem?_eq_none (by omega)] at hj
        simp at hj
    have hone := hop i o ho a w γ hst.rel (fun s hs => hst.rest s fun j hj he => by
        have hjlt : j < ops.size := by
          by_cases h : j < ops.size
          · exact h
          · rw [Array.getElem?_eq_none (by omega)] at he; cases he
        have h1 := (List.all_eq_true.1 hs) j (List.mem_range.2 hjlt)
        simp only [Bool.or_eq_true, beq_iff_eq, bne_iff_ne] at h1
        rcases h1 with (h1 | h1) | h1
        · rw [h1, hli] at hj; cases hj
        · rw [hnot j h1] at hj; cases hj
        · exact h1 he)
      (fun j oj hj hoj => hst.done j oj hoj (hdep j hj)) (hst.open_ i hlt hli) (fun j hj => hst.open_ j (hlts j hj) (hnot j hj))
    -- how it stands behind the operation
    have next : ∀ (v : Value) (w' : World) (γ' : Γ), R γ' w' → φ i v γ' → (∀ j u, j ≠ i → φ j u γ → φ j u γ') → (∀ j, j ≠ i → ψ j γ → ψ j γ') →
        wpAny P .any ops Q fuel (listed.setIfInBounds i true) (a.put o.dst v) w' := by
      intro v w' γ' hR hv hk1 hk2
      refine ih _ _ _ γ' ⟨hR, by simp [hst.size], ?_, ?_, ?_, ?_, ?_, ?_⟩ ?_
      · unfold Act.put; split <;> exact hst.defers
      · unfold Act.put; split <;> simp [hst.slots]
      · intro s hs
        have hne : o.dst ≠ some s := by
          have := hs i (by rw [getD_set hsz]; simp)
          rw [ho] at this
          exact this
        rw [slot_put_other hne]
        exact hst.rest s fun j hj => hs j (by rw [getD_set hsz]; split <;> simp_all)
      · intro j oj hoj hj
        by_cases e : j = i
        · subst e
          rw [ho] at hoj
          cases hoj
          cases hd : o.dst with
          | none =>
            have : slotOf (a.put none v) o = undef := by unfold slotOf; rw [hd]
            rw [this]
            exact hφ j o ho hd v γ' hv
          | some d =>
            rw [← hd, slot_put_same (fun d' hd' => by rw [hst.slots]; exact ((spec j o ho).2 d' hd').1) (fun hn => by rw [hd] at hn; cases hn)]
            exact hv
        · rw [getD_set hsz, if_neg e] at hj
          have h1 := hk1 j _ e (hst.done j oj hoj hj)
          have h2 : slotOf (a.put o.dst v) oj = slotOf a oj := by
            unfold slotOf
            cases hdj : oj.dst with
            | none => rfl
            | some d =>
              simp only []
              refine slot_put_other fun hd => ?_
              have := ((spec i o ho).2 d hd).2 j e
              rw [hoj] at this
              exact this hdj
          rw [h2]
          exact h1
      · intro j hj hl
        rw [getD_set hsz] at hl
        have e : j ≠ i := fun e => by rw [if_pos e] at hl; cases hl
        rw [if_neg e] at hl
        exact hk2 j e (hst.open_ j hj hl)
      · intro j k hj hjk
        rw [getD_set hsz]
        by_cases e : k = i
        · rw [if_pos e]
        · rw [if_neg e]
          rw [getD_set hsz] at hj
          by_cases e2 : j = i
          · subst e2; exact hdep k hjk
          · rw [if_neg e2] at hj
            exact hst.closed j k hj hjk
      · have hlen : ((List.range ops.size).filter fun j => (listed.setIfInBounds i true).getD j false == false).length < ((List.range ops.size).filter fun j => listed.getD j false == false).length := by
          have : ((List.range ops.size).filter fun j => (listed.setIfInBounds i true).getD j false == false) = (((List.range ops.size).filter fun j => listed.getD j false == false).filter fun j => j != i) := by
            rw [List.filter_filter]
            refine List.filter_congr fun j _ => ?_
            rw [getD_set hsz]
            by_cases e : j = i <;> simp [e]
          rw [this]
          refine List.length_filter_lt_length_iff_exists.2 ⟨i, ?_, by simp⟩
          rw [List.mem_filter]
          exact ⟨hi1, by rw [hli]; rfl⟩
        omega
    unfold wpOp
    rw [ho]
    simp only []
    by_cases hw : Region.wanted o (yielded ops a.tmps) = true
    · rw [if_pos hw] at hone ⊢
      refine .inl ?_
      unfold Oper.wp at hone ⊢
      refine Oper.upon_weak (fun a' w' hx => ?_) hone
      obtain ⟨v, γ', rfl, h1, h2, h3, h4⟩ := hx
      exact next v w' γ' h1 h2 h3 h4
    · rw [if_neg hw] at hone ⊢
      exact next undef w γ hst.rel hone (fun _ _ _ h => h) (fun _ _ h => h)

/-- The slots that a region writes. -/
def dsts (ops : Array Oper) : List Tmp := ops.toList.filterMap (·.dst)

theorem foldl_set_size (D : List Tmp) (vals : Tmp → Value) : ∀ t : Array Value, (D.foldl (fun t d => t.setIfInBounds d (vals d)) t).size = t.size := by
  induction D with
  | nil => intro t; rfl
  | cons d D ih => intro t; rw [List.foldl_cons, ih]; simp

theorem foldl_set_get (D : List Tmp) (vals : Tmp → Value) (s : Nat) : ∀ t : Array Value, s < t.size →
    (D.foldl (fun t d => t.setIfInBounds d (vals d)) t).getD s undef = if s ∈ D then vals s else t.getD s undef := by
  induction D with
  | nil => intro t _; simp
  | cons d D ih =>
    intro t hs
    rw [List.foldl_cons, ih _ (by simpa using hs)]
    by_cases h : s ∈ D
    · simp [h]
    · by_cases e : s = d
      · subst e
        simp [h, Array.getD_eq_getD_getElem?, hs]
      · simp [h, e, Ne.symm e, Array.getD_eq_getD_getElem?, Array.getElem?_setIfInBounds]

theorem tmps_of {a a0 : Act} (D : List Tmp) (hsz : a.tmps.size = a0.tmps.size) (hrest : ∀ s, s ∉ D → a.tmps.getD s undef = a0.tmps.getD s undef) :
    a.tmps = D.foldl (fun t d => t.setIfInBounds d (a.tmps.getD d undef)) a0.tmps := by
  refine Array.ext (by rw [foldl_set_size, hsz]) fun i h1 h2 => ?_
  have hi : i < a0.tmps.size := by rw [← hsz]; exact h1
  have hg := foldl_set_get D (fun d => a.tmps.getD d undef) i a0.tmps hi
  have gd : ∀ (x : Array Value) (h : i < x.size), x.getD i undef = x[i] := fun x h => by
    rw [Array.getD_eq_getD_getElem?, Array.getElem?_eq_getElem h, Option.getD_some]
  rw [← gd _ h1, ← gd _ h2, hg]
  by_cases hm : i ∈ D
  · rw [if_pos hm]
  · rw [if_neg hm]; exact hrest i hm

/-- A region that draws its order, by what each of its operations leaves. -/
theorem wp_region_each {R : Γ → World → Prop} (φ : Nat → Value → Γ → Prop) (ψ : Nat → Γ → Prop) {id : Nat} {a0 : Act} {w : World} {Q : Exit → Act → World → Prop} (γ0 : Γ) (hm : P.follows .mixedOrders = true)
    (hio : inOrder ops a0.tmps.size = true) (h0 : R γ0 w.drew) (h1 : ∀ j, ψ j γ0)
    (hφ : ∀ i o, ops[i]? = some o → o.dst = none → ∀ v γ, φ i v γ → φ i undef γ)
    (hop : ∀ i o, ops[i]? = some o → EachOp P ops R φ ψ a0 i o)
    (hfin : ∀ (w : World) (γ : Γ) (vals : Tmp → Value), R γ w → (∀ (j : Nat) o, ops[j]? = some o → φ j (match o.dst with | some d => vals d | none => undef) γ) →
      Q .normal { tmps := (dsts ops).foldl (fun t d => t.setIfInBounds d (vals d)) a0.tmps, defers := a0.defers } w) : (Code.region id ops true).wp P Q a0 w := by
  have hfin' : ∀ a w γ, R γ w → a.defers = a0.defers → a.tmps.size = a0.tmps.size → (∀ (j : Nat) o, ops[j]? = some o → φ j (slotOf a o) γ) →
      (∀ s, (∀ j : Nat, ((ops[j]?).bind (·.dst)) ≠ some s) → a.tmps.getD s undef = a0.tmps.getD s undef) → Q .normal a w := by
    intro a w γ hR hd hsz hall hrest
    have h := hfin w γ (fun s => a.tmps.getD s undef) hR (fun j o hj => hall j o hj)
    have ht := tmps_of (a := a) (a0 := a0) (dsts ops) hsz (fun s hs => hrest s fun j he => by
      apply hs
      unfold dsts
      cases ho : ops[j]? with
      | none => rw [ho] at he; cases he
      | some o =>
        rw [ho] at he
        exact List.mem_filterMap.2 ⟨o, Array.mem_toList_iff.2 (Array.mem_of_getElem? ho), he⟩)
    rw [← ht, ← hd] at h
    exact h
  refine wp_region_any hm (each_any hio hφ hop hfin' _ _ _ _ γ0 ⟨h0, by simp, rfl, rfl, fun _ _ => rfl, ?_, fun j _ _ => h1 j, ?_⟩ ?_)
  · intro j o hj hl
    exfalso
    rw [Array.getD_eq_getD_getElem?] at hl
    by_cases h : j < ops.size
    · simp [h] at hl
    · simp [h] at hl
  · intro j k hl
    exfalso
    rw [Array.getD_eq_getD_getElem?] at hl
    by_cases h : j < ops.size
    · simp [h] at hl
    · simp [h] at hl
  · refine Nat.le_trans (List.length_filter_le _ _) (by simp)
end
end Go.Proofs.Ytniiefcbiapieaa
