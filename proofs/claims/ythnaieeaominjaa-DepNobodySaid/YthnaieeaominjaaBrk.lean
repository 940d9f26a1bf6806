/-
  Package breaker: whether calls may pass.
-/
import Derived.Test.YthnaieeaominjaaSat
namespace Go.Proofs.Ythnaieeaominjaa
open Go.RowKit
set_option linter.unusedVariables false
set_option linter.unusedSimpArgs false

structure Brk where
  state : Int
  since : Int
  sleep : Int
  force : Int
deriving DecidableEq

def Brk.ask (b : Brk) (now : Int) : Int × Brk :=
  if b.force = 1 then (3, b)
  else if b.force = 2 ∨ b.state = 1 then (1, b)
  else if b.state = 2 ∧ sadd b.since b.sleep ≤ now then (2, { b with state := 3 })
  else (3, b)
def Brk.trip (b : Brk) (now : Int) : Bool × Brk := if b.state = 1 ∧ b.force = 0 then (true, { b with state := 2, since := now }) else (false, b)
def Brk.done (b : Brk) (now : Int) (ok : Bool) : Bool × Brk :=
  if b.state = 3 then (true, if ok then { b with state := 1 } else { b with state := 2, since := now }) else (false, b)
def Brk.back (b : Brk) : Bool × Brk := if b.state = 3 then (true, { b with state := 2 }) else (false, b)

def BrkAt (w : World) (p : Nat) (b : Brk) : Prop :=
  Blk w p (.cells #[.int .i64 b.state, .int .u64 b.since, .int .u64 b.sleep, .int .i64 b.force] 142 (0, 0)) ∧ U64 b.since ∧ U64 b.sleep

theorem BrkAt.fr {S : Nat → Prop} {w w' : World} {p : Nat} {b : Brk} (h : BrkAt w p b) (f : Fr S w w') (hp : ¬ S p) : BrkAt w' p b := ⟨h.1.fr f hp, h.2⟩

theorem BrkAt.cells {w : World} {p : Nat} {b : Brk} (h : BrkAt w p b) :
    (w.cell? ⟨p, 0, none⟩ = some (.int .i64 b.state) ∧ w.cell? ⟨p, 1, none⟩ = some (.int .u64 b.since) ∧ w.cell? ⟨p, 2, none⟩ = some (.int .u64 b.sleep) ∧ w.cell? ⟨p, 3, none⟩ = some (.int .i64 b.force)) ∧
    (w.frozen? ⟨p, 0, none⟩ = false ∧ w.frozen? ⟨p, 1, none⟩ = false) := by
  refine ⟨⟨?_, ?_, ?_, ?_⟩, h.1.free 0, h.1.free 1⟩ <;> rw [h.1.cell] <;> rfl

theorem BrkAt.set_state {w : World} {p : Nat} {b : Brk} (h : BrkAt w p b) (x : Int) : BrkAt (w.setCell ⟨p, 0, none⟩ (.int .i64 x)) p { b with state := x } := ⟨by simpa using h.1.set 0 (.int .i64 x), h.2⟩
theorem BrkAt.set_since {w : World} {p : Nat} {b : Brk} (h : BrkAt w p b) (x : Int) (hx : U64 x) : BrkAt (w.setCell ⟨p, 1, none⟩ (.int .u64 x)) p { b with since := x } := ⟨by simpa using h.1.set 1 (.int .u64 x), hx, h.2.2⟩
theorem BrkAt.drewN {w : World} {p : Nat} {b : Brk} (h : BrkAt w p b) (n : Nat) : BrkAt (w.drewN n) p b := h

/-- A method of a breaker: what it tells, and how it stands then. -/
def BrkPost (w : World) (p : Nat) (v : Value) (b : Brk) (e : Ending) (w' : World) : Prop := e = .returned v ∧ BrkAt w' p b ∧ Fr (Only p) w w'

theorem brk_state (p : Nat) (b : Brk) (w : World) (h : BrkAt w p b) :
    Calls Try.prog 34 #[.pointer (some ⟨p, 0, none⟩)] w fun e w' => e = .returned (.int .i64 b.state) ∧ w = w' := by
  obtain ⟨⟨c0, -⟩, -⟩ := h.cells
  go_enter Try.func34, Try.ntmps34
  go_wp2
  go_ret
  exact ⟨rfl, rfl⟩

theorem brk_open (p : Nat) (b : Brk) (now : Int) (w : World) (h : BrkAt w p b) (hn : U64 now) :
    Calls Try.prog 99 #[.pointer (some ⟨p, 0, none⟩), .int .u64 now] w (BrkPost w p (.tuple #[]) { b with state := 2, since := now }) := by
  obtain ⟨⟨c0, c1, -⟩, f0, f1⟩ := h.cells
  go_enter Try.func99, Try.ntmps99
  go_wp2
  go_end0
  exact ⟨rfl, (h.set_state 2).set_since now hn, ((Fr.refl _ _).setAt _ (Only.self p)).setAt _ (Only.self p)⟩

set_option maxHeartbeats 400000 in
theorem brk_trip (p : Nat) (b : Brk) (now : Int) (w : World) (h : BrkAt w p b) (hn : U64 now) :
    Calls Try.prog 80 #[.pointer (some ⟨p, 0, none⟩), .int .u64 now] w (BrkPost w p (.bool (b.trip now).1) (b.trip now).2) := by
  obtain ⟨⟨c0, c1, c2, c3⟩, f0, f1⟩ := h.cells
  have HO := Lib.hid (brk_open p b now w h hn)
  by_cases h1 : (b.state == 1) = true
  · have h1' : (b.state != 1) = false := by simpa using h1
    by_cases h2 : (b.force == 0) = true
    · have h2' : (b.force != 0) = false := by simpa using h2
      have hf : b.trip now = (true, { b with state := 2, since := now }) := by simp at h1 h2; simp [Brk.trip, h1, h2]
      rw [hf]
      clear hf
      go_enter Try.func80, Try.ntmps80
      go_wp2_with (go_at_call 99; (with_reducible refine HO.out.mono ?_); rintro e w' ⟨rfl, hb, hf⟩)
      go_ret
      exact ⟨rfl, hb, hf⟩
    · have h2' : (b.force != 0) = true := by simpa using h2
      have hf : b.trip now = (false, b) := by simp at h1 h2; simp [Brk.trip, h1, h2]
      rw [hf]
      clear hf
      go_enter Try.func80, Try.ntmps80
      go_wp2_with fail
      go_ret
      exact ⟨rfl, h, Fr.refl _ _⟩
  · have h1' : (b.state != 1) = true := by simpa using h1
    have hf : b.trip now = (false, b) := by simp at h1; simp [Brk.trip, h1]
    rw [hf]
    clear hf
    go_enter Try.func80, Try.ntmps80
    go_wp2_with fail
    go_ret
    exact ⟨rfl, h, Fr.refl _ _⟩

set_option maxHeartbeats 400000 in
theorem brk_done (p : Nat) (b : Brk) (now : Int) (ok : Bool) (w : World) (h : BrkAt w p b) (hn : U64 now) :
    Calls Try.prog 81 #[.pointer (some ⟨p, 0, none⟩), .int .u64 now, .bool ok] w (BrkPost w p (.bool (b.done now ok).1) (b.done now ok).2) := by
  obtain ⟨⟨c0, c1, c2, c3⟩, f0, f1⟩ := h.cells
  have HO := Lib.hid (brk_open p b now w h hn)
  have HS := Lib.hid (brk_state p b w h)
  by_cases h1 : (b.state == 3) = true
  · have h1' : (b.state != 3) = false := by simpa using h1
    cases ok
    · have hf : b.done now false = (true, { b with state := 2, since := now }) := by simp at h1; simp [Brk.done, h1]
      rw [hf]
      clear hf
      go_enter Try.func81, Try.ntmps81
      go_wp2_with (first | (go_at_call 99; (with_reducible refine HO.out.mono ?_); rintro e w' ⟨rfl, hb, hf⟩) | (go_at_call 34; (with_reducible refine HS.out.mono ?_); rintro e w' ⟨rfl, rfl⟩))
      go_ret
      exact ⟨rfl, hb, hf⟩
    · have hf : b.done now true = (true, { b with state := 1 }) := by simp at h1; simp [Brk.done, h1]
      rw [hf]
      clear hf
      go_enter Try.func81, Try.ntmps81
      go_wp2_with (first | (go_at_call 99; (with_reducible refine HO.out.mono ?_); rintro e w' ⟨rfl, hb, hf⟩) | (go_at_call 34; (with_reducible refine HS.out.mono ?_); rintro e w' ⟨rfl, rfl⟩))
      go_ret
      exact ⟨rfl, h.set_state 1, (Fr.refl _ _).setAt _ (Only.self p)⟩
  · have h1' : (b.state != 3) = true := by simpa using h1
    have hf : b.done now ok = (false, b) := by simp at h1; simp [Brk.done, h1]
    rw [hf]
    clear hf
    go_enter Try.func81, Try.ntmps81
    go_wp2_with (go_at_call 34; (with_reducible refine HS.out.mono ?_); rintro e w' ⟨rfl, rfl⟩)
    go_ret
    exact ⟨rfl, h, Fr.refl _ _⟩

set_option maxHeartbeats 400000 in
theorem brk_back (p : Nat) (b : Brk) (w : World) (h : BrkAt w p b) :
    Calls Try.prog 72 #[.pointer (some ⟨p, 0, none⟩)] w (BrkPost w p (.bool b.back.1) b.back.2) := by
  obtain ⟨⟨c0, c1, c2, c3⟩, f0, f1⟩ := h.cells
  have HS := Lib.hid (brk_state p b w h)
  by_cases h1 : (b.state == 3) = true
  · have h1' : (b.state != 3) = false := by simpa using h1
    have hf : b.back = (true, { b with state := 2 }) := by simp at h1; simp [Brk.back, h1]
    rw [hf]
    clear hf
    go_enter Try.func72, Try.ntmps72
    go_wp2_with (go_at_call 34; (with_reducible refine HS.out.mono ?_); rintro e w' ⟨rfl, rfl⟩)
    go_ret
    exact ⟨rfl, h.set_state 2, (Fr.refl _ _).setAt _ (Only.self p)⟩
  · have h1' : (b.state != 3) = true := by simpa using h1
    have hf : b.back = (false, b) := by simp at h1; simp [Brk.back, h1]
    rw [hf]
    clear hf
    go_enter Try.func72, Try.ntmps72
    go_wp2_with (go_at_call 34; (with_reducible refine HS.out.mono ?_); rintro e w' ⟨rfl, rfl⟩)
    go_ret
    exact ⟨rfl, h, Fr.refl _ _⟩

set_option maxHeartbeats 800000 in
theorem brk_ask (p : Nat) (b : Brk) (now : Int) (w : World) (h : BrkAt w p b) :
    Calls Try.prog 68 #[.pointer (some ⟨p, 0, none⟩), .int .u64 now] w (BrkPost w p (.int .i64 (b.ask now).1) (b.ask now).2) := by
  obtain ⟨⟨c0, c1, c2, c3⟩, f0, f1⟩ := h.cells
  have hu := h.2
  by_cases t1 : (b.force == 1) = true
  · have hf : b.ask now = (3, b) := by simp at t1; simp [Brk.ask, t1]
    rw [hf]
    clear hf
    go_enter Try.func68, Try.ntmps68
    go_wp2_with fail
    go_ret
    exact ⟨rfl, h, Fr.refl _ _⟩
  have t1 : (b.force == 1) = false := by simpa using t1
  by_cases t2 : (b.force == 2) = true
  · have hf : b.ask now = (1, b) := by simp at t1 t2; simp [Brk.ask, t1, t2]
    rw [hf]
    clear hf
    go_enter Try.func68, Try.ntmps68
    go_wp2_with fail
    go_ret
    exact ⟨rfl, h, Fr.refl _ _⟩
  have t2 : (b.force == 2) = false := by simpa using t2
  by_cases t3 : (b.state == 1) = true
  · have hf : b.ask now = (1, b) := by simp at t1 t2 t3; simp [Brk.ask, t1, t2, t3]
    rw [hf]
    clear hf
    go_enter Try.func68, Try.ntmps68
    go_wp2_with fail
    go_ret
    exact ⟨rfl, h, Fr.refl _ _⟩
  have t3 : (b.state == 1) = false := by simpa using t3
  by_cases t4 : (b.state == 2) = true
  · by_cases t5 : sadd b.since b.sleep ≤ now
    · have hf : b.ask now = (2, { b with state := 3 }) := by simp at t1 t2 t3 t4; simp [Brk.ask, t1, t2, t3, t4, t5]
      rw [hf]
      clear hf
      go_enter Try.func68, Try.ntmps68
      go_wp2_with fail
      go_quiet ((go_at_call 63; exact Calls.quiet_of_same ((sat_add _ _ _ hu.1 hu.2).mono fun _ _ h => ⟨h.1, h.2.symm⟩)))
      go_wp2_with fail
      go_ret
      exact ⟨rfl, (h.drewN nq).set_state 3, ((Fr.refl _ _).drewN nq).setAt _ (Only.self p)⟩
    · have hf : b.ask now = (3, b) := by simp at t1 t2 t3 t4; simp [Brk.ask, t1, t2, t3, t4, t5]
      rw [hf]
      clear hf
      go_enter Try.func68, Try.ntmps68
      go_wp2_with fail
      go_quiet ((go_at_call 63; exact Calls.quiet_of_same ((sat_add _ _ _ hu.1 hu.2).mono fun _ _ h => ⟨h.1, h.2.symm⟩)))
      go_wp2_with fail
      go_ret
      exact ⟨rfl, h.drewN nq, (Fr.refl _ _).drewN nq⟩
  have t4 : (b.state == 2) = false := by simpa using t4
  have hf : b.ask now = (3, b) := by simp at t1 t2 t3 t4; simp [Brk.ask, t1, t2, t3, t4]
  rw [hf]
  clear hf
  go_enter Try.func68, Try.ntmps68
  go_wp2_with fail
  go_quiet (fail)
  go_wp2_with fail
  go_ret
  exact ⟨rfl, h.drewN nq, (Fr.refl _ _).drewN nq⟩

end Go.Proofs.Ythnaieeaominjaa
