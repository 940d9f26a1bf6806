/-
  Package window: New, Add, Reset.
-/
import Derived.Test.YthnaieeaominjaaWinAt
import Derived.Test.YthnaieeaominjaaMap
namespace Go.Proofs.Ythnaieeaominjaa
open Go.RowKit
set_option linter.unusedVariables false
set_option linter.unusedSimpArgs false

theorem beq_flip {v b : Int} : (v != b) = !(decide (v = b)) := by
  by_cases h : v = b <;> simp [h]

theorem window_at (p : Nat) (g : Grid) (now : Int) (w : World) (h : GridAt 6 154 w p g) (hnow : U64 now) :
    Calls Try.prog 62 #[.pointer (some ⟨p, 0, none⟩), .int .u64 now] w
      (GridPost 6 154 w p (.pointer (some ⟨p, (g.turn 5 now).1 * 6, none⟩)) (g.turn 5 now).2) := by
  have hf := h.2
  have hn1 := hf.n1
  have hlt := Int.emod_nonneg (max g.now now / g.width) (show (g.n : Int) ≠ 0 by omega)
  have hm : now ≤ g.now ∧ max g.now now = g.now ∨ g.now < now ∧ max g.now now = now := by rw [Int.max_def]; split <;> omega
  have := window_at_core p g now (max g.now now) (max g.now now / g.width) (max g.now now / g.width % g.n).toNat
    (decide ((g.all.getD (max g.now now / g.width % g.n).toNat []).getD 0 0 = max g.now now / g.width)) w h hnow hm rfl (by omega) beq_flip
  simp only [decide_eq_true_eq] at this
  exact this

theorem turn_at {s : Nat} {T p : Nat} {w : World} {g : Grid} {v : Value} (h : GridAt s T w p g) : g.Fine s := h.2

def WinPost (w : World) (p : Nat) (v : Value) (g : Grid) (e : Ending) (w' : World) : Prop := e = .returned v ∧ GridAt 6 154 w' p g ∧ Fr (Only p) w w'

/-- A bucket's count of a kind grows. -/
def Grid.bump (g : Grid) (i j : Nat) (x : Int) : Grid := Grid.setCell g i j (sadd ((g.all.getD i []).getD j 0) x)
def Grid.add (g : Grid) (now : Int) (k : Nat) (x : Int) : Grid := (g.turn 5 now).2.bump (g.turn 5 now).1 (1 + k) x

set_option maxRecDepth 100000 in
set_option maxHeartbeats 800000 in
theorem window_add (p : Nat) (g : Grid) (now x : Int) (k : Nat) (w : World) (h : GridAt 6 154 w p g) (hnow : U64 now) (hx : U64 x) (hk : k < 5) :
    Calls Try.prog 69 #[.pointer (some ⟨p, 0, none⟩), .int .u64 now, .int .i64 k, .int .u64 x] w (WinPost w p (.bool true) (g.add now k x)) := by
  have HAt := Lib.hid (window_at p g now w h hnow)
  have hi := turn_place (k := 5) (now := now) h.2
  unfold Grid.add
  generalize (g.turn 5 now).1 = i at *
  generalize (g.turn 5 now).2 = g1 at *
  clear h
  go_enter Try.func69, Try.ntmps69
  go_wp2_with (go_at_call 62; refine HAt.out.mono ?_; rintro e w1 ⟨rfl, h1, hf1⟩)
  have c := h1.elem hi (show 1 + k < 6 by omega)
  have z := h1.1.free (i * 6 + (1 + k))
  have hc := h1.2.get hi (show 1 + k < 6 by omega)
  have H1 : GridAt 6 154 (w1.setCell ⟨p, i * 6 + (1 + k), none⟩ (.int .u64 (sadd ((g1.all.getD i []).getD (1 + k) 0) x))) p (g1.bump i (1 + k) x) := h1.set_cell hi (show 1 + k < 6 by omega) (sadd_u64 hc hx)
  generalize g1.bump i (1 + k) x = g2 at *
  generalize (g1.all.getD i []).getD (1 + k) 0 = v at *
  have HS := fun W => Lib.hid ((sat_add v x W hc hx).mono (R' := fun e w' => e = .returned (.int .u64 (sadd v x)) ∧ w' = W) (fun _ _ h => ⟨h.1, h.2.symm⟩))
  rw [← Nat.add_assoc] at c z H1
  generalize sadd v x = y at *
  have HH := Lib.hid H1
  have HF := Lib.hid hf1
  clear h1 hc hx hnow HAt H1 hf1
  refine region_tail 13 (by kernel_rfl) (by kernel_rfl) ?_
  simp only [List.take_succ_cons, List.take_zero, List.drop_succ_cons, List.drop_zero, World.drewN_drewN]
  repeat still_step
  still_call (HS _).out
  repeat still_step
  refine wpStill_nil ?_
  go_wp2_with fail
  go_ret
  exact ⟨rfl, HH.out, (HF.out.drewN 1).setAt _ (Only.self p)⟩


theorem run_clear_grid (P : Program) (p n : Nat) (T t e ty cap : Nat) (cur : Array Value) (zs : Array Value) (w : World) (hb : w.heap[p]? = some (.cells cur T (0, 0))) (ht : P.underlying t = some (.slice e))
    (hv : ∀ w, (zeroValue e).run P w = .ok (.agg zs) w) (hz : ∀ v ∈ (Builtin.zeroCells zs (n + 1)).toList, v.oneCell' = true) (hl : (Builtin.zeroCells zs (n + 1)).toList.length ≤ cur.size) :
    (Builtin.clear_ #[t] ty #[.slice (some ⟨p, 0, none⟩) (n + 1) cap]).run P w = .ok (.tuple #[]) (w.setRow p ((Builtin.zeroCells zs (n + 1)).toList ++ cur.toList.drop (Builtin.zeroCells zs (n + 1)).toList.length).toArray) := by
  have hst := run_storeCells_at P p 0 T (Builtin.zeroCells zs (n + 1)).toList 0 cur w hb (by omega) hz
  simp only [Nat.zero_add, List.take_zero, List.nil_append] at hst
  simp [Builtin.clear_, run_underlying ht, hv, Value.cells] at hst ⊢
  rw [hst]
  rfl

def Grid.reset (s : Nat) (g : Grid) : Grid := { g with all := List.replicate 8 (List.replicate s 0) }

theorem GridAt.reset {T p : Nat} {w : World} {g : Grid} (h : GridAt 6 T w p g) : GridAt 6 T (w.setRow p (List.replicate 48 (Value.int .u64 0) ++ g.cells.drop 48).toArray) p (g.reset 6) := by
  have hl := h.len
  have hc : (List.replicate 48 (Value.int .u64 0) ++ g.cells.drop 48).toArray = (g.reset 6).cells.toArray := by
    simp only [Grid.cells, Grid.reset]
    rw [List.drop_left' hl]; rfl
  rw [hc]
  refine ⟨setRow_heap w p _ _ T (0, 0) h.1, ⟨rfl, fun x hx => ?_, fun x hx y hy => ?_, h.2.n1, h.2.n8, h.2.w1, h.2.w2, h.2.now⟩⟩
  · rw [(List.mem_replicate.1 hx).2]; rfl
  · rw [(List.mem_replicate.1 hx).2] at hy
    rw [(List.mem_replicate.1 hy).2]; exact zero_u64

theorem setRow_fr {w : World} {p : Nat} {cs : Array Value} : Fr (Only p) w (w.setRow p cs) :=
  ⟨rfl, rfl, rfl, by simp [World.setRow], fun k hk hn => by
    simp only [World.setRow, Array.getElem?_modify]
    rw [if_neg (fun e => hn e.symm)]⟩

theorem window_clear (p : Nat) (g : Grid) (w : World) (h : GridAt 6 154 w p g) :
    (Builtin.clear_ #[166] 0 #[.slice (some ⟨p, 0, none⟩) 8 8]).run Try.prog w = .ok (.tuple #[]) (w.setRow p (List.replicate 48 (Value.int .u64 0) ++ g.cells.drop 48).toArray) := by
  have hl := h.len
  have hz : (Builtin.zeroCells #[.int .u64 0, .int .u64 0, .int .u64 0, .int .u64 0, .int .u64 0, .int .u64 0] (7 + 1)).toList = List.replicate 48 (Value.int .u64 0) := by kernel_rfl
  have := run_clear_grid Try.prog p 7 154 166 151 0 8 g.cells.toArray #[.int .u64 0, .int .u64 0, .int .u64 0, .int .u64 0, .int .u64 0, .int .u64 0] w h.1
    (by kernel_rfl) (fun w => by kernel_rfl) (by rw [hz]; intro v hv; rw [(List.mem_replicate.1 hv).2]; rfl) (by rw [hz]; simp [Grid.cells, hl])
  rw [hz] at this
  simpa using this

set_option maxRecDepth 100000 in
set_option maxHeartbeats 800000 in
theorem window_reset (p : Nat) (g : Grid) (w : World) (h : GridAt 6 154 w p g) :
    Calls Try.prog 82 #[.pointer (some ⟨p, 0, none⟩)] w (WinPost w p (.tuple #[]) (g.reset 6)) := by
  have hrun := window_clear p g w h
  have h1 := h.reset
  have f1 : Fr (Only p) w (w.setRow p (List.replicate 48 (Value.int .u64 0) ++ g.cells.drop 48).toArray) := setRow_fr
  generalize w.setRow p (List.replicate 48 (Value.int .u64 0) ++ g.cells.drop 48).toArray = w1 at *
  clear h
  go_enter Try.func82, Try.ntmps82
  go_wp2_with fail
  go_end0
  exact ⟨rfl, h1, f1⟩

end Go.Proofs.Ythnaieeaominjaa
