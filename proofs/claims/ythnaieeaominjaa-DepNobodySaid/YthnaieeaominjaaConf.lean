/-
  Configurations: their sixteen fields; package conf's Put and when; breaker.New, bulk.New, batch.One.
-/
import Derived.Test.YthnaieeaominjaaAdmit
import Derived.Test.YthnaieeaominjaaBrk
namespace Go.Proofs.Ythnaieeaominjaa
open Go.RowKit
set_option linter.unusedVariables false
set_option linter.unusedSimpArgs false

structure Cf where
  mode : Int
  pool : Int
  queue : Int
  sem : Int
  fb : Int
  chain : Int
  tmo : Int
  fbt : Int
  vol : Int
  pct : Int
  sleep : Int
  bkts : Int
  width : Int
  win : Int
  bat : Int
  force : Int
deriving DecidableEq

def Cf.cells (c : Cf) : Array Value := #[.int .i64 c.mode, .int .i64 c.pool, .int .i64 c.queue, .int .i64 c.sem, .int .i64 c.fb, .int .i64 c.chain, .int .u64 c.tmo, .int .u64 c.fbt, .int .i64 c.vol, .int .i64 c.pct,
  .int .u64 c.sleep, .int .i64 c.bkts, .int .u64 c.width, .int .u64 c.win, .int .i64 c.bat, .int .i64 c.force]
def Cf.val (c : Cf) : Value := .agg c.cells
structure Cf.Typed (c : Cf) : Prop where
  mode : I64 c.mode
  pool : I64 c.pool
  queue : I64 c.queue
  sem : I64 c.sem
  fb : I64 c.fb
  chain : I64 c.chain
  tmo : U64 c.tmo
  fbt : U64 c.fbt
  vol : I64 c.vol
  pct : I64 c.pct
  sleep : U64 c.sleep
  bkts : I64 c.bkts
  width : U64 c.width
  win : U64 c.win
  bat : I64 c.bat
  force : I64 c.force

/-- The fields as numbers. -/
def Cf.put (c : Cf) : List Int := [c.mode, c.pool, c.queue, c.sem, c.fb, c.chain, wrap64 c.tmo, wrap64 c.fbt, c.vol, c.pct, wrap64 c.sleep, c.bkts, wrap64 c.width, wrap64 c.win, c.bat, c.force]

theorem conf_put (c : Cf) (w : World) : Calls Try.prog 57 #[c.val] w fun e w' => e = .returned (.agg (ints c.put).toArray) ∧ Fr Nil w w' := by
  obtain ⟨c0, c1, c2, c3, c4, c5, c6, c7, c8, c9, c10, c11, c12, c13, c14, c15⟩ := c
  unfold Cf.val Cf.cells
  simp only
  go_enter Try.func57, Try.ntmps57
  go_wp2_with fail
  refine bodyPost_ret (v := .agg (ints (Cf.put ⟨c0, c1, c2, c3, c4, c5, c6, c7, c8, c9, c10, c11, c12, c13, c14, c15⟩)).toArray) (by simp [results, Try.results57, go_sem, Cf.put, ints]) rfl ⟨rfl, ?_⟩
  exact ((Fr.refl _ _).alloc _).alloc _

theorem conf_when (b : Bool) (x y : Int) (w : World) : Calls Try.prog 90 #[.bool b, .int .i64 x, .int .i64 y] w fun e w' => e = .returned (.agg #[.int .i64 (if b then x else 0), .int .i64 (if b then y else 0)]) ∧ Fr Nil w w' := by
  cases b
  · go_enter Try.func90, Try.ntmps90
    go_wp2_with fail
    refine bodyPost_ret (v := .agg #[.int .i64 0, .int .i64 0]) (by simp [results, Try.results90, go_sem]) rfl ⟨rfl, ?_⟩
    exact (Fr.refl _ _).alloc _
  · go_enter Try.func90, Try.ntmps90
    go_wp2_with fail
    refine bodyPost_ret (v := .agg #[.int .i64 x, .int .i64 y]) (by simp [results, Try.results90, go_sem]) rfl ⟨rfl, ?_⟩
    exact (Fr.refl _ _).alloc _

theorem brk_new (c : Cf) (w : World) (h : U64 c.sleep) : Calls Try.prog 24 #[c.val] w fun e w' => ∃ p, e = .returned (.pointer (some ⟨p, 0, none⟩)) ∧ BrkAt w' p ⟨1, 0, c.sleep, c.force⟩ ∧ w.heap.size ≤ p ∧ Fr Nil w w' := by
  have H := Lib.hid h
  clear h
  obtain ⟨c0, c1, c2, c3, c4, c5, c6, c7, c8, c9, c10, c11, c12, c13, c14, c15⟩ := c
  unfold Cf.val Cf.cells
  simp only
  go_enter Try.func24, Try.ntmps24
  go_wp2_with fail
  go_ret
  refine ⟨w.heap.size + 1, by simp, ⟨?_, zero_u64, H.out⟩, Nat.le_succ _, ((Fr.refl _ _).alloc _).alloc _⟩
  rw [← World.size_alloc w]
  exact Blk.new _ _

theorem batch_one (id x : Int) (w : World) : Calls Try.prog 41 #[.int .i64 id, .int .i64 x] w fun e w' => ∃ a m : Sl, e = .returned (.agg #[a.val, m.val]) ∧ Rd w' (fun b => b < w.heap.size) a 1 1 (ints [x]) ∧ Rd w' (fun b => b < w.heap.size) m 2 1 (pairs [(id, 0)]) ∧ Fr Nil w w' := by
  go_enter Try.func41, Try.ntmps41
  go_wp2_with fail
  refine bodyPost_ret (v := .agg #[.slice (some ⟨w.heap.size + 1, 0, none⟩) 1 1, .slice (some ⟨w.heap.size + 2, 0, none⟩) 1 1]) (by simp [results, Try.results41, go_sem]) rfl
    ⟨⟨some ⟨w.heap.size + 1, 0, none⟩, 1, 1⟩, ⟨some ⟨w.heap.size + 2, 0, none⟩, 1, 1⟩, rfl, ?_, ?_, (((Fr.refl _ _).alloc _).alloc _).alloc _⟩
  · refine ⟨rfl, Nat.le_refl _, by omega, rfl, .inr ⟨w.heap.size + 1, 0, rfl, by omega, by simp, fun j v hj => ?_⟩⟩
    have hb := (Blk.new (w.alloc (.cells #[.slice (some ⟨w.heap.size + 1, 0, none⟩) 1 1, .slice (some ⟨w.heap.size + 1 + 1, 0, none⟩) 1 1] 70)) (.cells #[.int .i64 x] 3)).alloc (.cells #[.int .i64 id, .int .i64 0] 172)
    rw [World.size_alloc] at hb
    rw [hb.cell, Nat.zero_add]
    simpa [ints] using hj
  · refine ⟨rfl, Nat.le_refl _, by omega, rfl, .inr ⟨w.heap.size + 2, 0, rfl, by omega, by simp, fun j v hj => ?_⟩⟩
    have hb := Blk.new ((w.alloc (.cells #[.slice (some ⟨w.heap.size + 1, 0, none⟩) 1 1, .slice (some ⟨w.heap.size + 1 + 1, 0, none⟩) 1 1] 70)).alloc (.cells #[.int .i64 x] 3)) (.cells #[.int .i64 id, .int .i64 0] 172)
    rw [World.size_alloc, World.size_alloc] at hb
    rw [hb.cell, Nat.zero_add]
    simpa [pairs] using hj

end Go.Proofs.Ythnaieeaominjaa
