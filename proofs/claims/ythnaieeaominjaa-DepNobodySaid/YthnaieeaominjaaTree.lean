/-
  A region that draws its order, where one operation (an allocation) may come up anywhere among those that are forced: all its orders, as a tree. No program stands here.
-/
import Derived.Test.YthnaieeaominjaaOrd
namespace Go.Proofs.Ythnaieeaominjaa
open Go.RowKit
set_option linter.unusedVariables false
set_option linter.unusedSimpArgs false

inductive Plan where
  | nil
  | take (i : Nat) (r : Plan)
  | one (i : Nat) (r : Plan)
  | two (i j : Nat) (r s : Plan)

section
variable {P : Program} {ops : Array Oper} {Q : Exit → Act → World → Prop} {md : Region.Mode} {S : World → Prop}

def Plan.length : Plan → Nat
  | .nil => 0
  | .take _ r => r.length + 1
  | .one _ r => r.length + 1
  | .two _ _ r _ => r.length + 1
def Plan.isNil : Plan → Bool
  | .nil => true
  | _ => false

/-- The plan carried out; S is shown behind each that isn't taken, but the last. -/
def treeS (P : Program) (ops : Array Oper) (Q : Exit → Act → World → Prop) (S : World → Prop) : Plan → Act → World → Prop
  | .nil, a, w => Q .normal a w
  | .take i r, a, w => ∃ o, ops[i]? = some o ∧ ∃ v, YieldsIf P ops S o v a ∧ treeS P ops Q S r (a.put o.dst v) w
  | .one i r, a, w => ∃ o, ops[i]? = some o ∧ if r.isNil then wpList P ops Q [o] a w else wpList P ops (Thn Q fun a' w' => S w' ∧ treeS P ops Q S r a' w') [o] a w
  | .two i j r s, a, w => (∃ o, ops[i]? = some o ∧ wpList P ops (Thn Q fun a' w' => S w' ∧ treeS P ops Q S r a' w') [o] a w) ∧ (∃ o, ops[j]? = some o ∧ wpList P ops (Thn Q fun a' w' => S w' ∧ treeS P ops Q S s a' w') [o] a w)
theorem treeS_take {i : Nat} {r : Plan} {o : Oper} {a : Act} {w : World} {v : Value} (ho : ops[i]? = some o) (hw : Region.wanted o (yielded ops a.tmps) = true) (hy : ∀ w, S w → (execOp a.eval o).run P w = .ok (.value v) w)
    (h : treeS P ops Q S r (a.put o.dst v) w) : treeS P ops Q S (.take i r) a w := by unfold treeS; exact ⟨o, ho, v, .inl ⟨hw, hy⟩, h⟩
theorem treeS_last {i : Nat} {o : Oper} {a : Act} {w : World} (ho : ops[i]? = some o) (h : wpList P ops Q [o] a w) : treeS P ops Q S (.one i .nil) a w := by unfold treeS; exact ⟨o, ho, h⟩
theorem treeS_one {i : Nat} {r : Plan} {o : Oper} {a : Act} {w : World} (ho : ops[i]? = some o) (hr : r.isNil = false) (h : wpList P ops (Thn Q fun a' w' => S w' ∧ treeS P ops Q S r a' w') [o] a w) : treeS P ops Q S (.one i r) a w := by
  unfold treeS; exact ⟨o, ho, by rw [hr]; exact h⟩
theorem treeS_two {i j : Nat} {r s : Plan} {o p : Oper} {a : Act} {w : World} (ho : ops[i]? = some o) (hp : ops[j]? = some p) (h : wpList P ops (Thn Q fun a' w' => S w' ∧ treeS P ops Q S r a' w') [o] a w)
    (g : wpList P ops (Thn Q fun a' w' => S w' ∧ treeS P ops Q S s a' w') [p] a w) : treeS P ops Q S (.two i j r s) a w := by unfold treeS; exact ⟨⟨o, ho, h⟩, p, hp, g⟩

/-- May it be carried out so? -/
def treeOk (md : Region.Mode) (ops : Array Oper) (n : Nat) : Plan → Array Bool → Bool
  | .nil, listed => (Region.ready md ops listed).isEmpty
  | .take i r, listed => decide (i < n) && (Region.ready md ops listed).contains i && Region.free md ops listed i && treeOk md ops n r (listed.setIfInBounds i true)
  | .one i r, listed => decide (Region.ready md ops listed = [i]) && decide (i < ops.size) && (if r.isNil then i == n else decide (i < n)) && treeOk md ops n r (listed.setIfInBounds i true)
  | .two i j r s, listed => decide (Region.ready md ops listed = [i, j]) && decide (i < n) && decide (j < n) && decide (r.length = s.length) && treeOk md ops n r (listed.setIfInBounds i true) && treeOk md ops n s (listed.setIfInBounds j true)
def treeOkF (md : Region.Mode) (ops : Array Oper) (n : Nat) : Plan → List Bool → Bool
  | .nil, listed => (Region.ready md ops listed.toArray).isEmpty
  | .take i r, listed => decide (i < n) && (Region.ready md ops listed.toArray).contains i && Region.free md ops listed.toArray i && forceB (listed.set i true) (treeOkF md ops n r)
  | .one i r, listed => decide (Region.ready md ops listed.toArray = [i]) && decide (i < ops.size) && (if r.isNil then i == n else decide (i < n)) && forceB (listed.set i true) (treeOkF md ops n r)
  | .two i j r s, listed => decide (Region.ready md ops listed.toArray = [i, j]) && decide (i < n) && decide (j < n) && decide (r.length = s.length) && forceB (listed.set i true) (treeOkF md ops n r) && forceB (listed.set j true) (treeOkF md ops n s)
theorem treeOkF_eq (n : Nat) : ∀ (l : Plan) (listed : List Bool), treeOkF md ops n l listed = treeOk md ops n l listed.toArray
  | .nil, listed => rfl
  | .take i r, listed => by simp only [treeOkF, treeOk, forceB_eq, treeOkF_eq n r, List.setIfInBounds_toArray]
  | .one i r, listed => by simp only [treeOkF, treeOk, forceB_eq, treeOkF_eq n r, List.setIfInBounds_toArray]
  | .two i j r s, listed => by simp only [treeOkF, treeOk, forceB_eq, treeOkF_eq n r, treeOkF_eq n s, List.setIfInBounds_toArray]
def planOk (ops : Array Oper) (l : Plan) : Bool :=
  Region.noSelect ops && decide (0 < ops.size) && Region.sinkB .any ops (ops.size - 1) && Region.chainB .any ops (ops.size - 1) && decide (l.length = ops.size) && forceB (List.replicate ops.size false) (treeOkF .any ops (ops.size - 1) l)

theorem wpAnyG_tree {n : Nat} (hsel : Region.noSelect ops = true) (hs : Region.sinkB md ops n = true) (hc : Region.chainB md ops n = true) (hn : n < ops.size)
    (hQ : ∀ c a d v w, Q (.panic c) (Act.put a d v) w → Q (.panic c) a w) :
    ∀ (l : Plan) (listed : Array Bool) (a : Act) (w : World), (l.isNil = false → HeadInv md ops n listed) → treeOk md ops n l listed = true → (l.isNil = false → S w) →
    treeS P ops Q S l a w → wpAnyG P md ops Q S n l.length listed a w
  | .nil, listed, a, w, _, hB, _, h => by
    unfold treeS at h
    exact ⟨by simpa [treeOk] using hB, h⟩
  | .take i r, listed, a, w, inv, hB, hS, h => by
    simp only [treeOk, Bool.and_eq_true, decide_eq_true_eq] at hB
    obtain ⟨⟨⟨hin, hr⟩, hf⟩, hB⟩ := hB
    have inv0 := inv rfl
    have hS0 := hS rfl
    have hr' : i ∈ Region.ready md ops listed := by simpa using hr
    unfold treeS at h
    obtain ⟨o, hi, v, hy, h⟩ := h
    exact wpAnyG_first hi (Region.noSelect_spec hsel) hs hc hn hin (fun c a w => hQ c a _ v w) r.length listed a w inv0 (Region.free_spec hi hf) hr' hy hS0
      (wpAnyG_tree hsel hs hc hn hQ r _ _ _ (fun _ => inv0.set hr' hin) hB (fun _ => hS0) h)
  | .one i r, listed, a, w, inv, hB, hS, h => by
    simp only [treeOk, Bool.and_eq_true, decide_eq_true_eq] at hB
    obtain ⟨⟨⟨hr, hlt'⟩, hin⟩, hB⟩ := hB
    have inv0 := inv rfl
    unfold treeS at h
    obtain ⟨o, hi, h⟩ := h
    have ih := fun a w inv h => wpAnyG_tree hsel hs hc hn hQ r (listed.setIfInBounds i true) a w inv hB h
    refine ⟨fun h0 => (by rw [h0] at hr; cases hr), fun j hj => ?_⟩
    have hj0 := hj
    rw [hr] at hj
    obtain rfl : j = i := by simpa using hj
    cases hnil : r.isNil
    · rw [hnil] at hin h
      simp only [Bool.false_eq_true, if_false] at hin h
      have hjn : j < n := by simpa using hin
      refine wpOp_mono (fun a' w' h' => ⟨fun _ => h'.1, ?_⟩) (wpOp_of_list hi h)
      exact ih a' w' (fun _ => inv0.set hj0 hjn) (fun _ => h'.1) h'.2
    · cases r <;> simp only [Plan.isNil, Bool.false_eq_true] at hnil
      simp only [Plan.isNil, if_true, beq_iff_eq] at hin h
      refine wpOp_of_list hi ?_
      have hq : (Thn Q fun a' w' => (j ≠ n → S w') ∧ wpAnyG P md ops Q S n Plan.nil.length (listed.setIfInBounds j true) a' w') = Q := by
        funext x a' w'
        cases x <;> first | rfl | skip
        have hz := hB
        simp only [treeOk, List.isEmpty_iff] at hz
        simp [Thn, hin, wpAnyG, Plan.length]
        intro _
        exact hin ▸ hz
      rw [hq]
      exact h
  | .two i j r s, listed, a, w, inv, hB, hS, h => by
    simp only [treeOk, Bool.and_eq_true, decide_eq_true_eq] at hB
    obtain ⟨⟨⟨⟨⟨hr, hin⟩, hjn⟩, hlen⟩, hB1⟩, hB2⟩ := hB
    have inv0 := inv rfl
    unfold treeS at h
    obtain ⟨⟨o, hi, h1⟩, p, hp, h2⟩ := h
    refine ⟨fun h0 => (by rw [h0] at hr; cases hr), fun k hk => ?_⟩
    have hk0 := hk
    rw [hr] at hk
    have hk1 : k = i ∨ k = j := by simpa using hk
    rcases hk1 with rfl | rfl
    · refine wpOp_mono (fun a' w' h' => ⟨fun _ => h'.1, ?_⟩) (wpOp_of_list hi h1)
      exact wpAnyG_tree hsel hs hc hn hQ r (listed.setIfInBounds k true) a' w' (fun _ => inv0.set hk0 hin) hB1 (fun _ => h'.1) h'.2
    · refine wpOp_mono (fun a' w' h' => ⟨fun _ => h'.1, ?_⟩) (wpOp_of_list hp h2)
      have := wpAnyG_tree hsel hs hc hn hQ s (listed.setIfInBounds k true) a' w' (fun _ => inv0.set hk0 hjn) hB2 (fun _ => h'.1) h'.2
      rwa [← hlen] at this

theorem region_plan {id : Nat} {a : Act} {w : World} {l : List Oper} (S : World → Prop) (o : Plan) (hm : P.follows .mixedOrders = true) (hB : planOk l.toArray o = true)
    (hQ : ∀ c a d v w, Q (.panic c) (Act.put a d v) w → Q (.panic c) a w) (hS : S (w.drewN 1))
    (h : treeS P l.toArray Q S o a (w.drewN 1)) : (Code.region id l.toArray true).wp P Q a w := by
  simp only [planOk, Bool.and_eq_true, decide_eq_true_eq] at hB
  obtain ⟨⟨⟨⟨⟨hsel, hn⟩, hs⟩, hc⟩, hlen⟩, hhead⟩ := hB
  rw [forceB_eq, treeOkF_eq, List.toArray_replicate] at hhead
  refine wp_region_any hm (wpAny_of_G (S := S) (n := l.toArray.size - 1) _ _ _ _ ?_)
  have inv0 : HeadInv .any l.toArray (l.toArray.size - 1) (Array.replicate l.toArray.size false) :=
    ⟨by simp, fun j oj _ hl => (by rw [getD_replicate_false] at hl; cases hl), fun t _ ht => getD_in (by simpa using ht) (getD_replicate_false _ _)⟩
  have := wpAnyG_tree hsel hs hc (by omega) hQ o _ a _ (fun _ => inv0) hhead (fun _ => hS) h
  rwa [hlen] at this
end
end Go.Proofs.Ythnaieeaominjaa
