/-
  A region that draws its order, carried out in ONE order that is named: what only reads is taken first, in every world that S knows; the rest is forced. S is not asked behind the last one. No program stands here.
-/
import Derived.Test.YthnaieeaominjaaBase
import Derived.OrdersHeld
import Derived.StillTail
namespace Go.Proofs.Ythnaieeaominjaa
open Go.RowKit
set_option linter.unusedVariables false
set_option linter.unusedSimpArgs false

section
variable {P : Program} {ops : Array Oper} {Q : Exit → Act → World → Prop} {md : Region.Mode} {S : World → Prop}

/-- Q, but K at a normal end. -/
def Thn (Q : Exit → Act → World → Prop) (K : Act → World → Prop) : Exit → Act → World → Prop
  | .normal, a, w => K a w
  | e, a, w => Q e a w
theorem Thn.mk {K : Act → World → Prop} {a : Act} {w : World} (h : K a w) : Thn Q K .normal a w := h
theorem Thn.lets {K : Act → World → Prop} (h : LetsOut (Thn Q K)) : LetsOut Q := h

theorem wpOp_of_list {i : Nat} {o : Oper} {K : Act → World → Prop} {a : Act} {w : World} (hi : ops[i]? = some o) (h : wpList P ops (Thn Q K) [o] a w) : wpOp P ops Q i K a w := by
  unfold wpOp
  simp only [hi]
  unfold wpList at h
  split at h
  · rename_i hw
    rw [if_pos hw]
    rcases h with h | ⟨h1, h2⟩
    · refine .inl ?_
      unfold Oper.wp at *
      generalize (execOp a.eval o).run P w = r at *
      cases r with
      | ok n w' =>
        cases n <;> simp only [Oper.upon] at h ⊢
        case enter f args => exact Calls.mono h fun e w'' he => by cases e <;> exact he
        case row row args => exact Rows.mono h fun u w'' he => he
        all_goals exact h
      | halt x w' =>
        cases x <;> simp only [Oper.upon] at h ⊢
        all_goals exact h
    · exact .inr ⟨h1, Thn.lets h2⟩
  · rename_i hw
    rw [if_neg hw]
    exact h

/-- Whatever order is picked from here on; S holds behind each operation but the n-th. -/
def wpAnyG (P : Program) (md : Region.Mode) (ops : Array Oper) (Q : Exit → Act → World → Prop) (S : World → Prop) (n : Nat) : Nat → Array Bool → Act → World → Prop
  | 0, listed, a, w => Region.ready md ops listed = [] ∧ Q .normal a w
  | fuel + 1, listed, a, w =>
    (Region.ready md ops listed = [] → Q .normal a w) ∧
    ∀ i ∈ Region.ready md ops listed, wpOp P ops Q i (fun a' w' => (i ≠ n → S w') ∧ wpAnyG P md ops Q S n fuel (listed.setIfInBounds i true) a' w') a w

theorem wpAny_of_G {n : Nat} : ∀ (fuel : Nat) (listed : Array Bool) (a : Act) (w : World), wpAnyG P md ops Q S n fuel listed a w → wpAny P md ops Q fuel listed a w
  | 0, _, _, _, h => h
  | fuel + 1, _, _, _, h => ⟨h.1, fun i hi => wpOp_mono (fun a' w' h' => wpAny_of_G fuel _ a' w' h'.2) (h.2 i hi)⟩

theorem wpAnyG_first {n i : Nat} {oi : Oper} {v : Value} (hi : ops[i]? = some oi) (hsel : ∀ (j : Nat) (o : Oper) cs b, ops[j]? = some o → o.op ≠ .select cs b)
    (hs : Region.sinkB md ops n = true) (hc : Region.chainB md ops n = true) (hn : n < ops.size) (hin : i < n)
    (hQ : ∀ c a w, Q (.panic c) (a.put oi.dst v) w → Q (.panic c) a w) :
    ∀ (fuel : Nat) (listed : Array Bool) (a : Act) (w : World), HeadInv md ops n listed →
      (∀ j oj, ops[j]? = some oj → j ≠ i → listed.getD j true = false → (∀ e ∈ oj.after, Region.binds md e = true → e.on ≠ i) → oi.apart ops oj = true) →
      i ∈ Region.ready md ops listed → YieldsIf P ops S oi v a → S w →
      wpAnyG P md ops Q S n fuel (listed.setIfInBounds i true) (a.put oi.dst v) w → wpAnyG P md ops Q S n (fuel + 1) listed a w := by
  intro fuel
  induction fuel with
  | zero =>
    intro listed a w inv _ hr hy hS H
    refine ⟨fun h => (by rw [h] at hr; cases hr), fun j hj => ?_⟩
    by_cases hji : j = i
    · subst hji; exact hy.wpOp hi hS ⟨fun _ => hS, H⟩
    · have := ready_mono hj hji
      rw [H.1] at this
      cases this
  | succ fuel ih =>
    intro listed a w inv hfree hr hy hS H
    have hun := (mem_ready.1 hr).1
    refine ⟨fun h => (by rw [h] at hr; cases hr), fun j hj => ?_⟩
    by_cases hji : j = i
    · subst hji; exact hy.wpOp hi hS ⟨fun _ => hS, H⟩
    · have hjn : j < n := by
        rcases Nat.lt_or_ge j n with h | h
        · exact h
        · exact absurd hj (tail_waits hs hc hn inv _ i rfl hin hun j h)
      have h1 := H.2 j (ready_mono hj hji)
      obtain ⟨hjun, oj, hoj, hall⟩ := mem_ready.1 hj
      have hnot : ∀ e ∈ oj.after, Region.binds md e = true → e.on ≠ i := fun e he hb heq => by
        have h1 := hall e he hb
        rw [heq, getD_both hun] at h1
        cases h1
      have h2 := wpOp_putIf hoj (hfree j oj hoj hji hjun hnot) (fun cs b => hsel i oi cs b hi) (fun cs b => hsel j oj cs b hoj) hQ hy h1
      have hfree' : ∀ k ok, ops[k]? = some ok → k ≠ i → (listed.setIfInBounds j true).getD k true = false →
          (∀ e ∈ ok.after, Region.binds md e = true → e.on ≠ i) → oi.apart ops ok = true := fun k ok hk hki hun hno => by
        refine hfree k ok hk hki ?_ hno
        by_cases hjk : j = k
        · subst hjk; exact hjun
        · rw [getD_set_ne true hjk] at hun; exact hun
      refine wpOp_mono (fun a' w' h3 => ?_) h2
      have hS' : S w' := h3.2.1 (by omega)
      refine ⟨fun _ => hS', ih (listed.setIfInBounds j true) a' w' (inv.set hj hjn) hfree' (ready_mono hr (Ne.symm hji)) h3.1 hS' ?_⟩
      rw [Array.setIfInBounds_comm _ _ hji]
      exact h3.2.2

/-- One behind the other: 'true': taken first (it yields one value in every world that S knows); 'false': forced. S is shown behind each that is forced, but the last. -/
def seqS (P : Program) (ops : Array Oper) (Q : Exit → Act → World → Prop) (S : World → Prop) : List (Bool × Oper) → Act → World → Prop
  | [], a, w => Q .normal a w
  | (true, o) :: rest, a, w => ∃ v, YieldsIf P ops S o v a ∧ seqS P ops Q S rest (a.put o.dst v) w
  | [(false, o)], a, w => wpList P ops Q [o] a w
  | (false, o) :: o' :: rest, a, w => wpList P ops (Thn Q fun a' w' => S w' ∧ seqS P ops Q S (o' :: rest) a' w') [o] a w
theorem seqS_take {o : Oper} {rest : List (Bool × Oper)} {a : Act} {w : World} {v : Value} (hw : Region.wanted o (yielded ops a.tmps) = true) (hy : ∀ w, S w → (execOp a.eval o).run P w = .ok (.value v) w)
    (h : seqS P ops Q S rest (a.put o.dst v) w) : seqS P ops Q S ((true, o) :: rest) a w := by unfold seqS; exact ⟨v, .inl ⟨hw, hy⟩, h⟩
theorem seqS_skip {o : Oper} {rest : List (Bool × Oper)} {a : Act} {w : World} (hw : Region.wanted o (yielded ops a.tmps) = false)
    (h : seqS P ops Q S rest (a.put o.dst undef) w) : seqS P ops Q S ((true, o) :: rest) a w := by unfold seqS; exact ⟨undef, .inr ⟨hw, rfl⟩, h⟩
theorem seqS_last {o : Oper} {a : Act} {w : World} (h : wpList P ops Q [o] a w) : seqS P ops Q S [(false, o)] a w := by unfold seqS; exact h
theorem seqS_more {o : Oper} {o' : Bool × Oper} {rest : List (Bool × Oper)} {a : Act} {w : World} (h : wpList P ops (Thn Q fun a' w' => S w' ∧ seqS P ops Q S (o' :: rest) a' w') [o] a w) : seqS P ops Q S ((false, o) :: o' :: rest) a w := by
  unfold seqS; exact h

/-- May these be carried out in this order? -/
def seqOk (md : Region.Mode) (ops : Array Oper) (n : Nat) : List (Bool × Nat) → Array Bool → Bool
  | [], listed => (Region.ready md ops listed).isEmpty
  | (true, i) :: rest, listed => decide (i < n) && (Region.ready md ops listed).contains i && Region.free md ops listed i && seqOk md ops n rest (listed.setIfInBounds i true)
  | (false, i) :: rest, listed => decide (Region.ready md ops listed = [i]) && decide (i < ops.size) && (if rest.isEmpty then i == n else decide (i < n)) && seqOk md ops n rest (listed.setIfInBounds i true)
/-- A list of marks, carried out to the end before k has it. -/
def forceB : List Bool → (List Bool → Bool) → Bool
  | [], k => k []
  | true :: r, k => forceB r fun r' => k (true :: r')
  | false :: r, k => forceB r fun r' => k (false :: r')
theorem forceB_eq : ∀ (l : List Bool) (k : List Bool → Bool), forceB l k = k l
  | [], k => rfl
  | true :: r, k => by rw [forceB, forceB_eq r]
  | false :: r, k => by rw [forceB, forceB_eq r]
/-- 'seqOk', as the kernel is to reckon it. -/
def seqOkF (md : Region.Mode) (ops : Array Oper) (n : Nat) : List (Bool × Nat) → List Bool → Bool
  | [], listed => (Region.ready md ops listed.toArray).isEmpty
  | (true, i) :: rest, listed => decide (i < n) && (Region.ready md ops listed.toArray).contains i && Region.free md ops listed.toArray i && forceB (listed.set i true) (seqOkF md ops n rest)
  | (false, i) :: rest, listed => decide (Region.ready md ops listed.toArray = [i]) && decide (i < ops.size) && (if rest.isEmpty then i == n else decide (i < n)) && forceB (listed.set i true) (seqOkF md ops n rest)
theorem seqOkF_eq (n : Nat) : ∀ (l : List (Bool × Nat)) (listed : List Bool), seqOkF md ops n l listed = seqOk md ops n l listed.toArray
  | [], listed => rfl
  | (true, i) :: rest, listed => by simp only [seqOkF, seqOk, forceB_eq, seqOkF_eq n rest, List.setIfInBounds_toArray]
  | (false, i) :: rest, listed => by simp only [seqOkF, seqOk, forceB_eq, seqOkF_eq n rest, List.setIfInBounds_toArray]
def ordOk (ops : Array Oper) (l : List (Bool × Nat)) : Bool :=
  Region.noSelect ops && decide (0 < ops.size) && Region.sinkB .any ops (ops.size - 1) && Region.chainB .any ops (ops.size - 1) && decide (l.length = ops.size) && forceB (List.replicate ops.size false) (seqOkF .any ops (ops.size - 1) l)

/-- The operations at these places. -/
def opsAt (ops : Array Oper) (l : List (Bool × Nat)) : List (Bool × Oper) := l.filterMap fun p => (ops[p.2]?).map fun o => (p.1, o)

theorem wpAnyG_seq {n : Nat} (hsel : Region.noSelect ops = true) (hs : Region.sinkB md ops n = true) (hc : Region.chainB md ops n = true) (hn : n < ops.size)
    (hQ : ∀ c a d v w, Q (.panic c) (Act.put a d v) w → Q (.panic c) a w) :
    ∀ (l : List (Bool × Nat)) (listed : Array Bool) (a : Act) (w : World), (l ≠ [] → HeadInv md ops n listed) → seqOk md ops n l listed = true → (l ≠ [] → S w) →
    seqS P ops Q S (opsAt ops l) a w → wpAnyG P md ops Q S n l.length listed a w
  | [], listed, a, w, _, hB, _, h => by
    unfold seqS at h
    exact ⟨by simpa [seqOk] using hB, h⟩
  | (true, i) :: rest, listed, a, w, inv, hB, hS, h => by
    simp only [seqOk, Bool.and_eq_true, decide_eq_true_eq] at hB
    obtain ⟨⟨⟨hin, hr⟩, hf⟩, hB⟩ := hB
    have inv0 := inv (by simp)
    have hS0 := hS (by simp)
    have hr' : i ∈ Region.ready md ops listed := by simpa using hr
    have hi : ops[i]? = some ops[i] := by simp [show i < ops.size by omega]
    have hat : opsAt ops ((true, i) :: rest) = (true, ops[i]) :: opsAt ops rest := by simp [opsAt, hi]
    rw [hat] at h
    unfold seqS at h
    obtain ⟨v, hy, h⟩ := h
    exact wpAnyG_first hi (Region.noSelect_spec hsel) hs hc hn hin (fun c a w => hQ c a _ v w) rest.length listed a w inv0 (Region.free_spec hi hf) hr' hy hS0
      (wpAnyG_seq hsel hs hc hn hQ rest _ _ _ (fun _ => inv0.set hr' hin) hB (fun _ => hS0) h)
  | (false, i) :: rest, listed, a, w, inv, hB, hS, h => by
    simp only [seqOk, Bool.and_eq_true, decide_eq_true_eq] at hB
    obtain ⟨⟨⟨hr, hlt'⟩, hin⟩, hB⟩ := hB
    have inv0 := inv (by simp)
    have hi : ops[i]? = some ops[i] := by simp [hlt']
    have hat : opsAt ops ((false, i) :: rest) = (false, ops[i]) :: opsAt ops rest := by simp [opsAt, hi]
    rw [hat] at h
    have ih := fun a w inv h => wpAnyG_seq hsel hs hc hn hQ rest (listed.setIfInBounds i true) a w inv hB h
    refine ⟨fun h0 => (by rw [h0] at hr; cases hr), fun j hj => ?_⟩
    have hj0 := hj
    rw [hr] at hj
    obtain rfl : j = i := by simpa using hj
    cases rest with
    | nil =>
      simp only [List.isEmpty_nil, if_true, beq_iff_eq] at hin
      refine wpOp_of_list hi ?_
      have hq : (Thn Q fun a' w' => (j ≠ n → S w') ∧ wpAnyG P md ops Q S n ([] : List (Bool × Nat)).length (listed.setIfInBounds j true) a' w') = Q := by
        funext x a' w'
        cases x <;> first | rfl | skip
        have hz := hB
        simp only [seqOk, List.isEmpty_iff] at hz
        simp [Thn, hin, wpAnyG]
        intro _
        exact hin ▸ hz
      rw [hq]
      have : opsAt ops [] = [] := rfl
      rw [this] at h
      unfold seqS at h
      exact h
    | cons k rest =>
      have hjn : j < n := by simpa using hin
      have hne : j ≠ n := by omega
      obtain ⟨o', r', ho⟩ : ∃ o' r', opsAt ops (k :: rest) = o' :: r' := by
        have : k.2 < ops.size := by
          obtain ⟨b, k⟩ := k
          cases b <;> simp [seqOk] at hB
          · exact hB.1.1.2
          · exact Nat.lt_trans hB.1.1.1 hn
        exact ⟨(k.1, ops[k.2]), opsAt ops rest, by simp [opsAt, this]⟩
      rw [ho] at h
      unfold seqS at h
      refine wpOp_mono (fun a' w' h' => ⟨fun _ => h'.1, ?_⟩) (wpOp_of_list hi h)
      rw [← ho] at h'
      exact ih a' w' (fun _ => inv0.set hj0 hjn) (fun _ => h'.1) h'.2

/-- A region that draws its order, in the order l. -/
theorem region_ord {id : Nat} {a : Act} {w : World} {l : List Oper} (S : World → Prop) (o : List (Bool × Nat)) (hm : P.follows .mixedOrders = true) (hB : ordOk l.toArray o = true)
    (hQ : ∀ c a d v w, Q (.panic c) (Act.put a d v) w → Q (.panic c) a w) (hS : S (w.drewN 1))
    (h : seqS P l.toArray Q S (opsAt l.toArray o) a (w.drewN 1)) : (Code.region id l.toArray true).wp P Q a w := by
  simp only [ordOk, Bool.and_eq_true, decide_eq_true_eq] at hB
  obtain ⟨⟨⟨⟨⟨hsel, hn⟩, hs⟩, hc⟩, hlen⟩, hhead⟩ := hB
  rw [forceB_eq, seqOkF_eq, List.toArray_replicate] at hhead
  refine wp_region_any hm (wpAny_of_G (S := S) (n := l.toArray.size - 1) _ _ _ _ ?_)
  have inv0 : HeadInv .any l.toArray (l.toArray.size - 1) (Array.replicate l.toArray.size false) :=
    ⟨by simp, fun j oj _ hl => (by rw [getD_replicate_false] at hl; cases hl), fun t _ ht => getD_in (by simpa using ht) (getD_replicate_false _ _)⟩
  have := wpAnyG_seq hsel hs hc (by omega) hQ o _ a _ (fun _ => inv0) hhead (fun _ => hS) h
  rwa [hlen] at this

theorem body_hQ {fn : Func} {R : Ending → World → Prop} (c : List PanicEntry) (a : Act) (d : Option Tmp) (v : Value) (w : World) (h : bodyPost P fn R (.panic c) (Act.put a d v) w) : bodyPost P fn R (.panic c) a w := by
  cases d <;> exact h
end
end Go.Proofs.Ythnaieeaominjaa
