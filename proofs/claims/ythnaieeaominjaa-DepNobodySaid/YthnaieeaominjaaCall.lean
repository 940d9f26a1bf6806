/-
  Package call: the life of a call. Its two slices are values that are handed on.
-/
import Derived.Test.YthnaieeaominjaaSat
import Derived.Laws.ResultCell
namespace Go.Proofs.Ythnaieeaominjaa
open Go.RowKit
set_option linter.unusedVariables false
set_option linter.unusedSimpArgs false

/-- A call: where its arguments and members lie, its state, step, cause, and since when it is. -/
structure CallR where
  args : Sl
  members : Sl
  state : Int
  step : Int
  cause : Int
  start : Int

def CallR.val (c : CallR) : Value := .agg #[c.args.val, c.members.val, .int .i64 c.state, .int .i64 c.step, .int .i64 c.cause, .int .u64 c.start]

def CallR.run (c : CallR) : CallR × Bool := if c.state = 1 then ({ c with state := 2 }, true) else (c, false)
def CallR.failed (c : CallR) (cause : Int) : CallR := if c.state = 1 ∨ c.state = 2 then { c with cause := cause } else c
def CallR.fail (c : CallR) (cause chain : Int) : CallR × Bool :=
  if 1 ≤ c.state ∧ c.state ≤ 3 then
    if chain ≤ c.step then ({ c.failed cause with state := 4 }, false) else ({ c.failed cause with state := 3, step := c.step + 1 }, true)
  else (c, false)
def CallR.fin (c : CallR) : CallR × Bool := if 1 ≤ c.state ∧ c.state ≤ 3 then ({ c with state := 4 }, true) else (c, false)

set_option maxHeartbeats 400000 in
theorem call_begin (a m : Sl) (now : Int) (w : World) :
    Calls Try.prog 40 #[.agg #[a.val, m.val], .int .u64 now] w fun e w' => e = .returned (CallR.val ⟨a, m, 1, 0, 0, now⟩) ∧ Fr Nil w w' := by
  unfold CallR.val Sl.val
  go_enter Try.func40, Try.ntmps40
  go_wp2_with fail
  refine bodyPost_ret (v := CallR.val ⟨a, m, 1, 0, 0, now⟩) (by simp [results, Try.results40, go_sem, CallR.val, Sl.val]) rfl ⟨rfl, ?_⟩
  exact ((Fr.refl _ _).alloc _).alloc _

set_option maxHeartbeats 400000 in
theorem call_run (c : CallR) (w : World) :
    Calls Try.prog 77 #[c.val] w fun e w' => e = .returned (.tuple #[c.run.1.val, .bool c.run.2]) ∧ Fr Nil w w' := by
  obtain ⟨a, m, st, sp, ca, t⟩ := c
  by_cases h1 : (st == 1) = true
  · have h1' : (st != 1) = false := by simpa using h1
    have hf : CallR.run ⟨a, m, st, sp, ca, t⟩ = (⟨a, m, 2, sp, ca, t⟩, true) := by simp at h1; simp [CallR.run, h1]
    rw [hf]
    clear hf
    unfold CallR.val Sl.val
    go_enter Try.func77, Try.ntmps77
    go_wp2_with fail
    refine bodyPost_ret (v := .tuple #[CallR.val ⟨a, m, 2, sp, ca, t⟩, .bool true]) (by simp [results, Try.results77, go_sem, CallR.val, Sl.val]) rfl ⟨rfl, ?_⟩
    exact ((Fr.refl _ _).alloc _).alloc _
  · have h1' : (st != 1) = true := by simpa using h1
    have hf : CallR.run ⟨a, m, st, sp, ca, t⟩ = (⟨a, m, st, sp, ca, t⟩, false) := by simp at h1; simp [CallR.run, h1]
    rw [hf]
    clear hf
    unfold CallR.val Sl.val
    go_enter Try.func77, Try.ntmps77
    go_wp2_with fail
    refine bodyPost_ret (v := .tuple #[CallR.val ⟨a, m, st, sp, ca, t⟩, .bool false]) (by simp [results, Try.results77, go_sem, CallR.val, Sl.val]) rfl ⟨rfl, ?_⟩
    exact ((Fr.refl _ _).alloc _).alloc _

set_option maxHeartbeats 400000 in
theorem call_end (c : CallR) (w : World) :
    Calls Try.prog 87 #[c.val] w fun e w' => e = .returned (.tuple #[c.fin.1.val, .bool c.fin.2]) ∧ Fr Nil w w' := by
  obtain ⟨a, m, st, sp, ca, t⟩ := c
  by_cases h1 : st < 1
  · have hf : CallR.fin ⟨a, m, st, sp, ca, t⟩ = (⟨a, m, st, sp, ca, t⟩, false) := by unfold CallR.fin; rw [if_neg (by simp; omega)]
    rw [hf]
    clear hf
    unfold CallR.val Sl.val
    go_enter Try.func87, Try.ntmps87
    go_wp2_with fail
    refine bodyPost_ret (v := .tuple #[CallR.val ⟨a, m, st, sp, ca, t⟩, .bool false]) (by simp [results, Try.results87, go_sem, CallR.val, Sl.val]) rfl ⟨rfl, ?_⟩
    exact ((Fr.refl _ _).alloc _).alloc _
  have h1' : decide (st < 1) = false := by simpa using h1
  by_cases h2 : 3 < st
  · have hf : CallR.fin ⟨a, m, st, sp, ca, t⟩ = (⟨a, m, st, sp, ca, t⟩, false) := by unfold CallR.fin; rw [if_neg (by simp; omega)]
    rw [hf]
    clear hf
    unfold CallR.val Sl.val
    go_enter Try.func87, Try.ntmps87
    go_wp2_with fail
    refine bodyPost_ret (v := .tuple #[CallR.val ⟨a, m, st, sp, ca, t⟩, .bool false]) (by simp [results, Try.results87, go_sem, CallR.val, Sl.val]) rfl ⟨rfl, ?_⟩
    exact ((Fr.refl _ _).alloc _).alloc _
  · have h2' : decide (3 < st) = false := by simpa using h2
    have hf : CallR.fin ⟨a, m, st, sp, ca, t⟩ = (⟨a, m, 4, sp, ca, t⟩, true) := by unfold CallR.fin; rw [if_pos (by simp; omega)]
    rw [hf]
    clear hf
    unfold CallR.val Sl.val
    go_enter Try.func87, Try.ntmps87
    go_wp2_with fail
    refine bodyPost_ret (v := .tuple #[CallR.val ⟨a, m, 4, sp, ca, t⟩, .bool true]) (by simp [results, Try.results87, go_sem, CallR.val, Sl.val]) rfl ⟨rfl, ?_⟩
    exact ((Fr.refl _ _).alloc _).alloc _

/-- An outcome. -/
structure Out where
  id : Int
  kind : Int
  cause : Int
  val : Int
  at_ : Int
deriving DecidableEq
def Out.cells (o : Out) : List Value := [.int .i64 o.id, .int .i64 o.kind, .int .i64 o.cause, .int .i64 o.val, .int .u64 o.at_]
def CallR.out (c : CallR) (id kind val now : Int) : Out := ⟨id, kind, if kind = 1 then 0 else c.cause, val, now⟩

set_option maxHeartbeats 400000 in
theorem call_out (c : CallR) (id kind val now : Int) (w : World) :
    Calls Try.prog 100 #[c.val, .int .i64 id, .int .i64 kind, .int .i64 val, .int .u64 now] w fun e w' => e = .returned (.agg (c.out id kind val now).cells.toArray) ∧ Fr Nil w w' := by
  obtain ⟨a, m, st, sp, ca, t⟩ := c
  by_cases h1 : (kind == 1) = true
  · have hf : CallR.out ⟨a, m, st, sp, ca, t⟩ id kind val now = ⟨id, kind, 0, val, now⟩ := by simp at h1; simp [CallR.out, h1]
    rw [hf]
    clear hf
    unfold CallR.val Sl.val
    go_enter Try.func100, Try.ntmps100
    go_wp2_with fail
    refine bodyPost_ret (v := .agg (Out.cells ⟨id, kind, 0, val, now⟩).toArray) (by simp [results, Try.results100, go_sem, Out.cells]) rfl ⟨rfl, ?_⟩
    exact (((Fr.refl _ _).alloc _).alloc _).alloc _
  · have h1' : (kind == 1) = false := by simpa using h1
    have hf : CallR.out ⟨a, m, st, sp, ca, t⟩ id kind val now = ⟨id, kind, ca, val, now⟩ := by simp at h1; simp [CallR.out, h1]
    rw [hf]
    clear hf
    unfold CallR.val Sl.val
    go_enter Try.func100, Try.ntmps100
    go_wp2_with fail
    refine bodyPost_ret (v := .agg (Out.cells ⟨id, kind, ca, val, now⟩).toArray) (by simp [results, Try.results100, go_sem, Out.cells]) rfl ⟨rfl, ?_⟩
    exact (((Fr.refl _ _).alloc _).alloc _).alloc _

set_option maxHeartbeats 800000 in
theorem call_fail (c : CallR) (cause chain : Int) (w : World) (hs : -9223372036854775808 ≤ c.step) (hc : chain ≤ 9223372036854775807) :
    Calls Try.prog 83 #[c.val, .int .i64 cause, .int .i64 chain] w fun e w' => e = .returned (.tuple #[(c.fail cause chain).1.val, .bool (c.fail cause chain).2]) ∧ Fr Nil w w' := by
  obtain ⟨a, m, st, sp, ca, t⟩ := c
  simp only at hs
  by_cases h1 : (st == 1) = true
  · obtain rfl : st = 1 := by simpa using h1
    clear h1
    by_cases h4 : chain ≤ sp
    · have hf : CallR.fail ⟨a, m, 1, sp, ca, t⟩ cause chain = (⟨a, m, 4, sp, cause, t⟩, false) := by simp [CallR.fail, CallR.failed, h4]
      rw [hf]
      clear hf
      unfold CallR.val Sl.val
      go_enter Try.func83, Try.ntmps83
      go_wp2_with fail
      refine bodyPost_ret (v := .tuple #[CallR.val ⟨a, m, 4, sp, cause, t⟩, .bool false]) (by simp [results, Try.results83, go_sem, CallR.val, Sl.val]) rfl ⟨rfl, ?_⟩
      exact ((Fr.refl _ _).alloc _).alloc _
    · have h4' : decide (chain ≤ sp) = false := by simpa using h4
      have hf : CallR.fail ⟨a, m, 1, sp, ca, t⟩ cause chain = (⟨a, m, 3, sp + 1, cause, t⟩, true) := by simp [CallR.fail, CallR.failed, h4]
      rw [hf]
      clear hf
      unfold CallR.val Sl.val
      go_enter Try.func83, Try.ntmps83
      go_wp2_with fail
      refine bodyPost_ret (v := .tuple #[CallR.val ⟨a, m, 3, sp + 1, cause, t⟩, .bool true]) (by simp [results, Try.results83, go_sem, CallR.val, Sl.val]) rfl ⟨rfl, ?_⟩
      exact ((Fr.refl _ _).alloc _).alloc _
  have h1' : (st == 1) = false := by simpa using h1
  by_cases h2 : (st == 2) = true
  · obtain rfl : st = 2 := by simpa using h2
    clear h2 h1 h1'
    by_cases h4 : chain ≤ sp
    · have hf : CallR.fail ⟨a, m, 2, sp, ca, t⟩ cause chain = (⟨a, m, 4, sp, cause, t⟩, false) := by simp [CallR.fail, CallR.failed, h4]
      rw [hf]
      clear hf
      unfold CallR.val Sl.val
      go_enter Try.func83, Try.ntmps83
      go_wp2_with fail
      refine bodyPost_ret (v := .tuple #[CallR.val ⟨a, m, 4, sp, cause, t⟩, .bool false]) (by simp [results, Try.results83, go_sem, CallR.val, Sl.val]) rfl ⟨rfl, ?_⟩
      exact ((Fr.refl _ _).alloc _).alloc _
    · have h4' : decide (chain ≤ sp) = false := by simpa using h4
      have hf : CallR.fail ⟨a, m, 2, sp, ca, t⟩ cause chain = (⟨a, m, 3, sp + 1, cause, t⟩, true) := by simp [CallR.fail, CallR.failed, h4]
      rw [hf]
      clear hf
      unfold CallR.val Sl.val
      go_enter Try.func83, Try.ntmps83
      go_wp2_with fail
      refine bodyPost_ret (v := .tuple #[CallR.val ⟨a, m, 3, sp + 1, cause, t⟩, .bool true]) (by simp [results, Try.results83, go_sem, CallR.val, Sl.val]) rfl ⟨rfl, ?_⟩
      exact ((Fr.refl _ _).alloc _).alloc _
  have h2' : (st == 2) = false := by simpa using h2
  by_cases h3 : (st == 3) = true
  · obtain rfl : st = 3 := by simpa using h3
    clear h3 h2 h2' h1 h1'
    by_cases h4 : chain ≤ sp
    · have hf : CallR.fail ⟨a, m, 3, sp, ca, t⟩ cause chain = (⟨a, m, 4, sp, ca, t⟩, false) := by simp [CallR.fail, CallR.failed, h4]
      rw [hf]
      clear hf
      unfold CallR.val Sl.val
      go_enter Try.func83, Try.ntmps83
      go_wp2_with fail
      refine bodyPost_ret (v := .tuple #[CallR.val ⟨a, m, 4, sp, ca, t⟩, .bool false]) (by simp [results, Try.results83, go_sem, CallR.val, Sl.val]) rfl ⟨rfl, ?_⟩
      exact ((Fr.refl _ _).alloc _).alloc _
    · have h4' : decide (chain ≤ sp) = false := by simpa using h4
      have hf : CallR.fail ⟨a, m, 3, sp, ca, t⟩ cause chain = (⟨a, m, 3, sp + 1, ca, t⟩, true) := by simp [CallR.fail, CallR.failed, h4]
      rw [hf]
      clear hf
      unfold CallR.val Sl.val
      go_enter Try.func83, Try.ntmps83
      go_wp2_with fail
      refine bodyPost_ret (v := .tuple #[CallR.val ⟨a, m, 3, sp + 1, ca, t⟩, .bool true]) (by simp [results, Try.results83, go_sem, CallR.val, Sl.val]) rfl ⟨rfl, ?_⟩
      exact ((Fr.refl _ _).alloc _).alloc _
  · have h3' : (st == 3) = false := by simpa using h3
    have hf : CallR.fail ⟨a, m, st, sp, ca, t⟩ cause chain = (⟨a, m, st, sp, ca, t⟩, false) := by
      simp at h1 h2 h3
      unfold CallR.fail
      rw [if_neg (by simp; omega)]
    rw [hf]
    clear hf
    unfold CallR.val Sl.val
    go_enter Try.func83, Try.ntmps83
    go_wp2_with fail
    refine bodyPost_ret (v := .tuple #[CallR.val ⟨a, m, st, sp, ca, t⟩, .bool false]) (by simp [results, Try.results83, go_sem, CallR.val, Sl.val]) rfl ⟨rfl, ?_⟩
    exact ((Fr.refl _ _).alloc _).alloc _
end Go.Proofs.Ythnaieeaominjaa
