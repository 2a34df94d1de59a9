/- A region that draws its order, walked once in the order of its text: what reads comes first, though it may come up later; then what writes, one by one, and what only reckons. -/
import Derived.Test.YtniiefcbiapieaaStepCall
import Derived.OrdersHeld
import Derived.StillTail
namespace Go.Proofs.Ytniiefcbiapieaa
open Go

/-- Operation j waits for i, through others perhaps. -/
def waitsT (md : Region.Mode) (ops : Array Oper) : Nat → Nat → Nat → Bool
  | 0, _, _ => false
  | f + 1, j, i => match ops[j]? with
    | some o => o.after.any fun e => Region.binds md e && (e.on == i || waitsT md ops f e.on i)
    | none => false

/-- What is listed waits for nothing that is not. -/
def Closed (md : Region.Mode) (ops : Array Oper) (listed : Array Bool) : Prop :=
  ∀ j oj, ops[j]? = some oj → listed.getD j false = true → ∀ e ∈ oj.after, Region.binds md e = true → listed.getD e.on false = true

theorem Closed.reach {md : Region.Mode} {ops : Array Oper} {listed : Array Bool} (h : Closed md ops listed) : ∀ (f j i : Nat) oj, ops[j]? = some oj → (∀ e ∈ oj.after, Region.binds md e = true → listed.getD e.on false = true) → waitsT md ops f j i = true → listed.getD i false = true := by
  intro f
  induction f with
  | zero => intro j i oj _ _ hw; cases hw
  | succ f ih =>
    intro j i oj hj hd hw
    unfold waitsT at hw
    rw [hj] at hw
    obtain ⟨e, he, hb⟩ := Array.any_eq_true'.1 hw
    simp only [Bool.and_eq_true, Bool.or_eq_true, beq_iff_eq] at hb
    have h1 := hd e he hb.1
    rcases hb.2 with h2 | h2
    · rw [← h2]; exact h1
    · cases hoe : ops[e.on]? with
      | none =>
        exfalso
        cases f with
        | zero => cases h2
        | succ f => unfold waitsT at h2; rw [hoe] at h2; cases h2
      | some oe => exact ih e.on i oe hoe (h e.on oe hoe h1) h2

section
variable {P : Program} {ops : Array Oper} {md : Region.Mode} {Q : Exit → Act → World → Prop} {S : World → Prop} {need : Nat → Bool}

theorem Closed.set {listed : Array Bool} {i : Nat} (h : Closed md ops listed) (hi : i ∈ Region.ready md ops listed) : Closed md ops (listed.setIfInBounds i true) := by
  obtain ⟨_, oi, hoi, hall⟩ := mem_ready.1 hi
  intro j oj hj hl e he hb
  by_cases e1 : i = j
  · subst e1
    rw [hoi] at hj
    cases hj
    exact getD_set_true (hall e he hb)
  · rw [getD_set_ne false e1] at hl
    exact getD_set_true (h j oj hj hl e he hb)

/-- Whatever comes up; behind operation i, where it is asked, S holds. -/
def wpAnyN (P : Program) (md : Region.Mode) (ops : Array Oper) (Q : Exit → Act → World → Prop) (S : World → Prop) (need : Nat → Bool) : Nat → Array Bool → Act → World → Prop
  | 0, listed, a, w => Region.ready md ops listed = [] ∧ Q .normal a w
  | f + 1, listed, a, w => (Region.ready md ops listed = [] → Q .normal a w) ∧
    ∀ i ∈ Region.ready md ops listed, wpOp P ops Q i (fun a' w' => (need i = true → S w → S w') ∧ wpAnyN P md ops Q S need f (listed.setIfInBounds i true) a' w') a w

theorem wpAny_of_N : ∀ (f : Nat) (listed : Array Bool) (a : Act) (w : World), wpAnyN P md ops Q S need f listed a w → wpAny P md ops Q f listed a w
  | 0, _, _, _, h => h
  | f + 1, _, _, _, h => ⟨h.1, fun i hi => wpOp_mono (fun a' w' h' => wpAny_of_N f _ a' w' h'.2) (h.2 i hi)⟩

/-- Operation i may be taken first: what comes ahead of it leaves what it reads. -/
theorem wpAnyN_first {i : Nat} {oi : Oper} {v : Value} {S0 : World → Prop} (hi : ops[i]? = some oi) (hsel : ∀ (j : Nat) (o : Oper) cs b, ops[j]? = some o → o.op ≠ .select cs b)
    (hQ : ∀ c (a : Act) w, Q (.panic c) (a.put oi.dst v) w → Q (.panic c) a w)
    (hj : ∀ j w w', waitsT md ops ops.size j i = false → (need j = true → S w → S w') → S0 w → S0 w') :
    ∀ (f : Nat) (listed : Array Bool) (a : Act) (w : World), Closed md ops listed →
      (∀ j oj, ops[j]? = some oj → j ≠ i → listed.getD j true = false → (∀ e ∈ oj.after, Region.binds md e = true → e.on ≠ i) → oi.apart ops oj = true) →
      i ∈ Region.ready md ops listed → YieldsIf P ops S0 oi v a → S0 w →
      wpAnyN P md ops Q S need f (listed.setIfInBounds i true) (a.put oi.dst v) w → wpAnyN P md ops Q S need (f + 1) listed a w := by
  intro f
  induction f with
  | zero =>
    intro listed a w _ _ hr hy hS0 H
    refine ⟨fun h => (by rw [h] at hr; cases hr), fun j hjr => ?_⟩
    by_cases e : j = i
    · subst e; exact hy.wpOp hi hS0 ⟨fun _ h => h, H⟩
    · have := ready_mono hjr e
      rw [H.1] at this
      cases this
  | succ f ih =>
    intro listed a w hc hfree hr hy hS0 H
    refine ⟨fun h => (by rw [h] at hr; cases hr), fun j hjr => ?_⟩
    by_cases e : j = i
    · subst e; exact hy.wpOp hi hS0 ⟨fun _ h => h, H⟩
    · obtain ⟨hjun, oj, hoj, hall⟩ := mem_ready.1 hjr
      have hun := getD_both (mem_ready.1 hr).1
      have hnot : ∀ e ∈ oj.after, Region.binds md e = true → e.on ≠ i := fun e he hb heq => by
        have h1 := hall e he hb
        rw [heq, hun] at h1
        cases h1
      have hnw : waitsT md ops ops.size j i = false := by
        cases hx : waitsT md ops ops.size j i with
        | false => rfl
        | true =>
          have := hc.reach _ j i oj hoj hall hx
          rw [hun] at this
          cases this
      have h1 := H.2 j (ready_mono hjr e)
      have h2 := wpOp_putIf hoj (hfree j oj hoj e hjun hnot) (fun cs b => hsel i oi cs b hi) (fun cs b => hsel j oj cs b hoj) hQ hy h1
      refine wpOp_mono (fun a' w' h3 => ⟨h3.2.1, ?_⟩) h2
      have hS1 := hj j w w' hnw h3.2.1 hS0
      refine ih (listed.setIfInBounds j true) a' w' (hc.set hjr) (fun k ok hk hki hunk hno => ?_) (ready_mono hr (Ne.symm e)) h3.1 hS1 ?_
      · refine hfree k ok hk hki ?_ hno
        by_cases hjk : j = k
        · subst hjk; exact hjun
        · rw [getD_set_ne true hjk] at hunk; exact hunk
      · rw [Array.setIfInBounds_comm _ _ e]; exact h3.2.2

/-- What reckons only. -/
def pureB (o : Oper) : Bool := o.guard.isNone && match o.op with
  | .move _ | .assign _ | .extract _ _ | .pick _ _ _ | .build _ _ | .field _ _ _ | .fieldAddr _ _ _ | .nilCheck _ | .binOp _ _ _ _ _ | .unOp _ _ _ | .makeInterface _ _ => true
  | _ => false

/-- The first n leave the world as it is, and read what S tells. -/
def wpLight (P : Program) (S : World → Prop) (K : Act → Prop) : List Oper → Act → Prop
  | [], a => K a
  | o :: rest, a => ∃ v, (∀ w, S w → (execOp a.eval o).run P w = .ok (.value v) w) ∧ wpLight P S K rest (a.put o.dst v)

/-- The others, in the order of the text. -/
def wpTail (P : Program) (Q : Exit → Act → World → Prop) (S : World → Prop) (need : Nat → Bool) : Nat → List Oper → Act → World → Prop
  | _, [], a, w => Q .normal a w
  | k, o :: rest, a, w =>
    if pureB o = true then ∃ v, (∀ w, (execOp a.eval o).run P w = .ok (.value v) w) ∧ wpTail P Q S need (k + 1) rest (a.put o.dst v) w
    else o.wp P a w (fun a' w' => (need k = true → S w → S w') ∧ wpTail P Q S need (k + 1) rest a' w') Q

def needB (md : Region.Mode) (ops : Array Oper) (n : Nat) (k : Nat) : Bool := (List.range n).any fun i => !waitsT md ops ops.size k i

/-- The text's order is one in which each of the first n, and each that only reckons, may be taken first; whatever else comes up, comes up alone. -/
def lightB (md : Region.Mode) (ops : Array Oper) : Nat → Nat → Array Bool → Bool
  | 0, _, _ => true
  | f + 1, k, listed => ((ops[k]?).map (·.guard.isNone)).getD false && (Region.ready md ops listed).contains k && Region.free md ops listed k && lightB md ops f (k + 1) (listed.setIfInBounds k true)
def tailB (md : Region.Mode) (ops : Array Oper) : Nat → Nat → Array Bool → Bool
  | 0, _, listed => (Region.ready md ops listed).isEmpty
  | f + 1, k, listed => ((ops[k]?).map fun o => o.guard.isNone && if pureB o then (Region.ready md ops listed).contains k && Region.free md ops listed k else Region.ready md ops listed == [k]).getD false && tailB md ops f (k + 1) (listed.setIfInBounds k true)
def setTo (md : Region.Mode) : Nat → Nat → Array Bool → Array Bool
  | 0, _, listed => listed
  | f + 1, k, listed => setTo md f (k + 1) (listed.setIfInBounds k true)
def preB (md : Region.Mode) (l : List Oper) (n : Nat) : Bool :=
  Region.noSelect l.toArray && decide (n ≤ l.length) && lightB md l.toArray n 0 (Array.replicate l.length false) && tailB md l.toArray (l.length - n) n (setTo md n 0 (Array.replicate l.length false))

theorem wanted_none {o : Oper} (h : o.guard.isNone = true) (y : Nat → Option Bool) : Region.wanted o y = true := by
  unfold Region.wanted
  cases hg : o.guard with
  | none => rfl
  | some x => rw [hg] at h; cases h

theorem tail_any (hsel : Region.noSelect ops = true) (hQ : ∀ c (a : Act) d v w, Q (.panic c) (a.put d v) w → Q (.panic c) a w) :
    ∀ (l : List Oper) (k : Nat) (listed : Array Bool) (a : Act) (w : World), (∀ j, l[j]? = ops[k + j]?) → Closed md ops listed → tailB md ops l.length k listed = true → wpTail P Q S need k l a w →
      wpAnyN P md ops Q S need l.length listed a w
  | [], k, listed, a, w, _, _, hB, h => ⟨by simpa [tailB] using hB, h⟩
  | o :: l, k, listed, a, w, hl, hc, hB, h => by
    have h0 : ops[k]? = some o := by simpa using (hl 0).symm
    simp only [List.length_cons, tailB, h0, Option.map_some, Option.getD_some, Bool.and_eq_true] at hB
    obtain ⟨⟨hg, hB1⟩, hB2⟩ := hB
    have hl' : ∀ j, l[j]? = ops[k + 1 + j]? := fun j => by have := hl (j + 1); simpa [Nat.add_assoc, Nat.add_comm 1 j] using this
    unfold wpTail at h
    by_cases hp : pureB o = true
    · rw [if_pos hp] at hB1 h
      simp only [Bool.and_eq_true] at hB1
      obtain ⟨v, hv, hrest⟩ := h
      have hr : k ∈ Region.ready md ops listed := by simpa using hB1.1
      exact wpAnyN_first (S0 := fun _ => True) h0 (Region.noSelect_spec hsel) (fun c a w => hQ c a _ _ w) (fun _ _ _ _ _ _ => trivial) l.length listed a w hc (Region.free_spec h0 hB1.2) hr (.inl ⟨wanted_none hg _, fun w' _ => hv w'⟩) trivial
        (tail_any hsel hQ l (k + 1) _ _ w hl' (hc.set hr) hB2 hrest)
    · rw [if_neg hp] at hB1 h
      have hr : Region.ready md ops listed = [k] := by simpa using hB1
      have hrk : k ∈ Region.ready md ops listed := by rw [hr]; simp
      refine ⟨fun h1 => (by rw [hr] at h1; cases h1), fun i hi => ?_⟩
      rw [hr] at hi
      have hik : i = k := by simpa using hi
      subst hik
      unfold wpOp
      simp only [h0, wanted_none hg, if_true]
      exact .inl (Oper.wp_mono (fun a' w' h' => ⟨h'.1, tail_any hsel hQ l (i + 1) _ a' w' hl' (hc.set hrk) hB2 h'.2⟩) h)

theorem light_any {n : Nat} (hn : ∀ k, need k = needB md ops n k) (hsel : Region.noSelect ops = true) (hQ : ∀ c (a : Act) d v w, Q (.panic c) (a.put d v) w → Q (.panic c) a w) {w : World} (hS : S w) {g : Nat} :
    ∀ (l : List Oper) (k : Nat) (listed : Array Bool) (a : Act), (∀ j, j < l.length → l[j]? = ops[k + j]?) → k + l.length ≤ n → Closed md ops listed → lightB md ops l.length k listed = true →
      wpLight P S (fun a' => ∀ listed', listed' = setTo md l.length k listed → Closed md ops listed' → wpAnyN P md ops Q S need g listed' a' w) l a → wpAnyN P md ops Q S need (l.length + g) listed a w
  | [], k, listed, a, _, _, hc, _, h => by rw [List.length_nil, Nat.zero_add]; exact h _ rfl hc
  | o :: l, k, listed, a, hl, hk, hc, hB, h => by
    have h0 : ops[k]? = some o := by simpa using (hl 0 (by simp)).symm
    simp only [List.length_cons] at hk
    simp only [List.length_cons, lightB, h0, Option.map_some, Option.getD_some, Bool.and_eq_true] at hB
    obtain ⟨⟨⟨hg, hr⟩, hf⟩, hB2⟩ := hB
    obtain ⟨v, hv, hrest⟩ := h
    have hr' : k ∈ Region.ready md ops listed := by simpa using hr
    rw [show (o :: l).length + g = (l.length + g) + 1 by simp; omega]
    refine wpAnyN_first (S0 := S) h0 (Region.noSelect_spec hsel) (fun c a w => hQ c a _ _ w) (fun j w1 w2 hw hp h1 => hp ?_ h1) _ listed a w hc (Region.free_spec h0 hf) hr' (.inl ⟨wanted_none hg _, hv⟩) hS
      (light_any hn hsel hQ hS l (k + 1) _ _ (fun j hj => by have := hl (j + 1) (by simp; omega); simpa [Nat.add_assoc, Nat.add_comm 1 j] using this) (by omega) (hc.set hr') hB2 hrest)
    rw [hn j]
    unfold needB
    rw [List.any_eq_true]
    exact ⟨k, List.mem_range.2 (by omega), by rw [hw]; rfl⟩

/-- The region. -/
theorem wp_region_pre {id : Nat} {a : Act} {w : World} {l : List Oper} (n : Nat) (S : World → Prop) (hm : P.follows .mixedOrders = true) (hB : preB .any l n = true) (hQ' : ∀ c (a : Act) t v w, Q (.panic c) (a.put (some t) v) w → Q (.panic c) a w)
    (hS : S w.drew) (h : wpLight P S (fun a' => wpTail P Q S (needB .any l.toArray n) n (l.drop n) a' w.drew) (l.take n) a) : (Code.region id l.toArray true).wp P Q a w := by
  have hQ : ∀ c (a : Act) d v w, Q (.panic c) (a.put d v) w → Q (.panic c) a w := fun c a d v w h => by
    cases d with
    | none => exact h
    | some t => exact hQ' c a t v w h
  simp only [preB, Bool.and_eq_true, decide_eq_true_eq] at hB
  obtain ⟨⟨⟨hsel, hn⟩, h1⟩, h2⟩ := hB
  have htl : (l.take n).length = n := by simp; omega
  have hdl : (l.drop n).length = l.length - n := by simp
  have hc0 : Closed .any l.toArray (Array.replicate l.length false) := fun j oj _ hl => by rw [getD_replicate_false] at hl; cases hl
  refine wp_region_any hm (wpAny_of_N (S := S) (need := needB .any l.toArray n) _ _ _ _ ?_)
  have hsz : l.toArray.size = (l.take n).length + (l.drop n).length := by rw [htl, hdl]; simp; omega
  rw [hsz, show Array.replicate ((l.take n).length + (l.drop n).length) false = Array.replicate l.length false by rw [htl, hdl]; congr 1; omega]
  refine light_any (n := n) (fun _ => rfl) hsel hQ hS (l.take n) 0 _ a (fun j hj => ?_) (by omega) hc0 (by rw [htl]; exact h1) ?_
  · have : j < n := by omega
    simp [this]
  · have key : ∀ (l' : List Oper) (a : Act), wpLight P S (fun a' => wpTail P Q S (needB .any l.toArray n) n (l.drop n) a' w.drew) l' a →
        wpLight P S (fun a' => ∀ listed', listed' = setTo .any (l.take n).length 0 (Array.replicate l.length false) → Closed .any l.toArray listed' → wpAnyN P .any l.toArray Q S (needB .any l.toArray n) (l.drop n).length listed' a' w.drew) l' a := by
      intro l'
      induction l' with
      | nil =>
        intro a h listed' he hc
        refine tail_any hsel hQ (l.drop n) n listed' a w.drew (fun j => by simp [List.getElem?_drop]) hc ?_ h
        rw [he, htl, hdl]
        exact h2
      | cons o l' ih => intro a ⟨v, hv, hr⟩; exact ⟨v, hv, ih _ hr⟩
    exact key _ _ h

/-- The steps of the walk. -/
theorem light_step {o : Oper} {rest : List Oper} {a : Act} {K : Act → Prop} (v : Value) (hv : ∀ w, S w → (execOp a.eval o).run P w = .ok (.value v) w) (h : wpLight P S K rest (a.put o.dst v)) : wpLight P S K (o :: rest) a := ⟨v, hv, h⟩
theorem light_nil {a : Act} {K : Act → Prop} (h : K a) : wpLight P S K [] a := h
theorem tail_nil {a : Act} {w : World} {k : Nat} (h : Q .normal a w) : wpTail P Q S need k [] a w := h
theorem tail_pure {o : Oper} {rest : List Oper} {a : Act} {w : World} {k : Nat} (hp : pureB o = true) (v : Value) (hv : ∀ w, (execOp a.eval o).run P w = .ok (.value v) w) (h : wpTail P Q S need (k + 1) rest (a.put o.dst v) w) : wpTail P Q S need k (o :: rest) a w := by
  unfold wpTail; rw [if_pos hp]; exact ⟨v, hv, h⟩
/-- An operation that writes, run by its equation. -/
theorem tail_run {o : Oper} {rest : List Oper} {a : Act} {w w' : World} {k : Nat} (hp : pureB o = false) (n : Next) (v : Value) (hn : n = .value v ∨ n = .skip ∧ v = undef) (hv : (execOp a.eval o).run P w = .ok n w') (hS : need k = true → S w → S w') (h : wpTail P Q S need (k + 1) rest (a.put o.dst v) w') : wpTail P Q S need k (o :: rest) a w := by
  unfold wpTail; rw [if_neg (by rw [hp]; decide)]
  unfold Oper.wp
  rw [hv]
  rcases hn with rfl | ⟨rfl, rfl⟩ <;> exact ⟨hS, h⟩
/-- What is asked behind a step that writes. -/
def TailBehind (P : Program) (Q : Exit → Act → World → Prop) (S : World → Prop) (need : Nat → Bool) (k : Nat) (o : Oper) (rest : List Oper) (a : Act) (w : World) (e : Ending) (w' : World) : Prop :=
  ∃ v, e = .returned v ∧ (need k = true → S w → S w') ∧ wpTail P Q S need (k + 1) rest (a.put o.dst v) w'
theorem tail_call {o : Oper} {rest : List Oper} {a : Act} {w : World} {k : Nat} (hp : pureB o = false) (f : FuncId) (args : Array Operand) (tys : Array TypeId) (ho : o.op = Op.call { callee := .value (.func f), args := args, argTypes := tys })
    (hf : enters P f = true) (vals : Array Value) (hv : (args.toList.map a.eval).toArray = vals) (h : Calls P f vals w (TailBehind P Q S need k o rest a w)) : wpTail P Q S need k (o :: rest) a w := by
  unfold wpTail; rw [if_neg (by rw [hp]; decide)]
  unfold Oper.wp
  rw [run_call f args tys ho hf vals hv]
  refine Calls.mono h fun e w' he => ?_
  obtain ⟨v, rfl, hk⟩ := he
  exact hk
/-- A law at an operation (an append's, say). -/
theorem tail_law {o : Oper} {rest : List Oper} {a : Act} {w : World} {k : Nat} (hp : pureB o = false) (h : ∀ K : Act → World → Prop, (∀ a' w', (need k = true → S w → S w') → wpTail P Q S need (k + 1) rest a' w' → K a' w') → o.wp P a w K Q) : wpTail P Q S need k (o :: rest) a w := by
  unfold wpTail; rw [if_neg (by rw [hp]; decide)]
  exact h _ fun a' w' h1 h2 => ⟨h1, h2⟩
theorem no_need {b : Bool} {p : Prop} (hb : b = false) : b = true → p := by rw [hb]; intro h; cases h
end
end Go.Proofs.Ytniiefcbiapieaa
