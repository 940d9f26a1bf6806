/-
  Package hist: New, Add, and what it calls of package bits. What the buckets hold is not told: no statement asks for it.
-/
import Derived.Test.YthnaieeaominjaaHistAt
import Derived.Test.YthnaieeaominjaaMap
namespace Go.Proofs.Ythnaieeaominjaa
open Go.RowKit
set_option linter.unusedVariables false
set_option linter.unusedSimpArgs false

def LenInv (k : Nat) (x : Int) : Prop := k ≤ 64 ∧ 0 ≤ x ∧ x < 2 ^ (64 - k)
theorem LenInv.lt {k : Nat} {x : Int} (h : LenInv k x) (hx : x ≠ 0) : k < 64 := by
  obtain ⟨h1, h2, h3⟩ := h
  rcases Nat.lt_or_ge k 64 with h | h
  · exact h
  · have : 64 - k = 0 := by omega
    rw [this] at h3; simp at h3; omega
theorem LenInv.next {k : Nat} {x : Int} (h : LenInv k x) (hk : k < 64) : LenInv (k + 1) (x / 2) := by
  obtain ⟨h1, h2, h3⟩ := h
  refine ⟨by omega, by omega, ?_⟩
  have : 64 - k = (64 - (k + 1)) + 1 := by omega
  rw [this, Int.pow_succ] at h3
  omega
set_option maxHeartbeats 400000 in
theorem bits_len (x : Int) (w : World) (hx : U64 x) : Calls Try.prog 102 #[.int .u64 x] w fun e w' => (∃ k : Nat, k ≤ 64 ∧ e = .returned (.int .i64 k)) ∧ w = w' := by
  have h0 : LenInv 0 x := ⟨Nat.zero_le _, hx.1, by have h5 : (2 : Int) ^ (64 - 0) = 18446744073709551616 := by decide
                                                   have := hx.2; omega⟩
  clear hx
  go_enter Try.func102, Try.ntmps102
  go_wp2_with fail
  go_loop [0, 3] (fun t i => ∃ (k : Nat) (y : Int), LenInv k y ∧ t = .int .u64 y ∧ i = .int .i64 k) (fun _ i => 64 - (intOf i).toNat)
  case atStart => exact ⟨0, x, h0, rfl, rfl⟩
  case round =>
    obtain ⟨k, y, hI, rfl, rfl⟩ := hrel
    have H := Lib.hid hI
    clear hI
    by_cases hy : (y != 0) = true
    · have hk := H.out.lt (by simpa using hy)
      go_wp2_with fail
      go_round
      case rel => exact ⟨k + 1, y / 2, H.out.next hk, rfl, by go_num⟩
      case measure => simp [intOf]; omega
    · go_wp2_with fail
      go_ret
      exact ⟨⟨k, H.out.1, rfl⟩, rfl⟩

def BinPost (w : World) (e : Ending) (w' : World) : Prop := (∃ k : Nat, k ≤ 64 ∧ e = .returned (.int .i64 k)) ∧ w = w'
theorem hist_bin (x : Int) (w : World) (hx : U64 x) : Calls Try.prog 86 #[.int .u64 x] w (BinPost w) := by
  have HL := Lib.hid (bits_len x w hx)
  clear hx
  go_enter Try.func86, Try.ntmps86
  go_wp2_with fail
  refine HL.out.mono ?_
  rintro e w' ⟨⟨k, hk, rfl⟩, rfl⟩
  go_wp2_with fail
  go_ret
  exact ⟨⟨k, hk, rfl⟩, rfl⟩

theorem beq_not {v b : Int} : (v != b) = !(decide (v = b)) := by
  by_cases h : v = b <;> simp [h]

theorem hist_at (p : Nat) (g : Grid) (now : Int) (w : World) (h : GridAt 66 160 w p g) (hnow : U64 now) :
    Calls Try.prog 85 #[.pointer (some ⟨p, 0, none⟩), .int .u64 now] w
      (GridPost 66 160 w p (.pointer (some ⟨p, (g.turn 65 now).1 * 66, none⟩)) (g.turn 65 now).2) := by
  have hf := h.2
  have hn1 := hf.n1
  have hlt := Int.emod_nonneg (max g.now now / g.width) (show (g.n : Int) ≠ 0 by omega)
  have hm : now ≤ g.now ∧ max g.now now = g.now ∨ g.now < now ∧ max g.now now = now := by rw [Int.max_def]; split <;> omega
  have := hist_at_core p g now (max g.now now) (max g.now now / g.width) (max g.now now / g.width % g.n).toNat
    (decide ((g.all.getD (max g.now now / g.width % g.n).toNat []).getD 0 0 = max g.now now / g.width)) w h hnow hm rfl (by omega) beq_not
  simp only [decide_eq_true_eq] at this
  exact this

def HistAt (w : World) (p : Nat) : Prop := ∃ g, GridAt 66 160 w p g
def HistPost (w : World) (p : Nat) (v : Value) (e : Ending) (w' : World) : Prop := e = .returned v ∧ HistAt w' p ∧ Fr (Only p) w w'
theorem HistAt.fr {S : Nat → Prop} {w w' : World} {p : Nat} (h : HistAt w p) (f : Fr S w w') (hp : ¬ S p) : HistAt w' p := by
  obtain ⟨g, h⟩ := h
  exact ⟨g, h.fr f hp⟩

set_option maxRecDepth 100000 in
set_option maxHeartbeats 800000 in
theorem hist_add (p : Nat) (now x : Int) (w : World) (h : HistAt w p) (hnow : U64 now) (hx : U64 x) :
    Calls Try.prog 49 #[.pointer (some ⟨p, 0, none⟩), .int .u64 now, .int .u64 x] w (HistPost w p (.tuple #[])) := by
  obtain ⟨g, h⟩ := h
  have HAt := Lib.hid (hist_at p g now w h hnow)
  have hi := turn_place (k := 65) (now := now) h.2
  generalize (g.turn 65 now).1 = i at *
  generalize (g.turn 65 now).2 = g1 at *
  clear h
  go_enter Try.func49, Try.ntmps49
  go_wp2_with fail
  refine HAt.out.mono ?_
  rintro e w1 ⟨rfl, h1, hf1⟩
  go_wp2_with fail
  refine (hist_bin x w1 hx).mono ?_
  rintro e w2 ⟨⟨k, hk, rfl⟩, rfl⟩
  have c := h1.elem hi (show 1 + k < 66 by omega)
  have z := h1.1.free (i * 66 + (1 + k))
  have hc := h1.2.get hi (show 1 + k < 66 by omega)
  have H1 := h1.set_cell hi (show 1 + k < 66 by omega) (sadd_u64 hc (show U64 1 by unfold U64; omega))
  generalize (g1.all.getD i []).getD (1 + k) 0 = v at *
  have HS := fun W => Lib.hid ((sat_add v 1 W hc (show U64 1 by unfold U64; omega)).mono (R' := fun e w' => e = .returned (.int .u64 (sadd v 1)) ∧ w' = W) (fun _ _ h => ⟨h.1, h.2.symm⟩))
  rw [← Nat.add_assoc] at c z H1
  generalize sadd v 1 = y at *
  have hk65 : (k : Int) < 65 := by omega
  have HH := Lib.hid H1
  have HF := Lib.hid hf1
  clear h1 hc hx hnow HAt H1 hf1
  go_wp2_with fail
  refine region_tail 12 (by kernel_rfl) (by kernel_rfl) ?_
  simp only [List.take_succ_cons, List.take_zero, List.drop_succ_cons, List.drop_zero, World.drewN_drewN]
  repeat still_step
  still_call (HS _).out
  repeat still_step
  refine wpStill_nil ?_
  go_wp2_with fail
  go_end0
  exact ⟨rfl, ⟨_, HH.out⟩, (HF.out.drewN 1).setAt _ (Only.self p)⟩

def newGrid (s n : Nat) (wd : Int) : Grid := ⟨List.replicate 8 (List.replicate s 0), n, wd, 0⟩
theorem new_cells (s n : Nat) (wd : Int) : ((List.replicate (8 * s + 3) (Value.int .u64 0)).toArray.setIfInBounds (8 * s) (.int .u64 n)).setIfInBounds (8 * s + 1) (.int .u64 wd) = (newGrid s n wd).cells.toArray := by
  simp only [Grid.cells, newGrid, List.flatten_replicate_replicate, u64s, List.map_replicate, List.setIfInBounds_toArray]
  rw [← List.replicate_append_replicate, List.set_append_right _ _ (by simp), List.set_append_right _ _ (by simp)]
  simp [List.replicate]
theorem newGrid_fine {s n : Nat} {wd : Int} (h1 : 1 ≤ n) (h8 : n ≤ 8) (hw1 : 1 ≤ wd) (hw2 : wd ≤ 1099511627776) : (newGrid s n wd).Fine s where
  eight := by simp [newGrid]
  size x hx := by rw [(List.mem_replicate.1 hx).2]; simp
  u64 x hx y hy := by
    rw [(List.mem_replicate.1 hx).2] at hy
    rw [(List.mem_replicate.1 hy).2]; exact zero_u64
  n1 := h1
  n8 := h8
  w1 := hw1
  w2 := hw2
  now := zero_u64
theorem zeros_hist : Try.zeroCells160 = (List.replicate (8 * 66 + 3) (Value.int .u64 0)).toArray := by kernel_rfl

theorem hist_new (n wd : Int) (w : World) (h1 : 1 ≤ n) (h8 : n ≤ 8) (hw1 : 1 ≤ wd) (hw2 : wd ≤ 1099511627776) :
    Calls Try.prog 28 #[.int .i64 n, .int .u64 wd] w fun e w' => ∃ p, e = .returned (.pointer (some ⟨p, 0, none⟩)) ∧ HistAt w' p ∧ w.heap.size ≤ p ∧ p < w'.heap.size ∧ Fr Nil w w' := by
  have d1 : decide (n < 1) = false := by simp; omega
  have d2 : decide (8 < n) = false := by simp; omega
  have d3 : decide (wd < 1) = false := by simp; omega
  have d4 : decide (1099511627776 < wd) = false := by simp; omega
  go_enter Try.func28, Try.ntmps28
  go_wp2_with fail
  go_ret
  have hc := new_cells 66 n.toNat wd
  rw [← zeros_hist, show ((n.toNat : Nat) : Int) = n by omega] at hc
  simp only [Nat.reduceMul, Nat.reduceAdd] at hc
  rw [hc]
  exact ⟨w.heap.size, rfl, ⟨_, Blk.new _ _, newGrid_fine (by omega) (by omega) hw1 hw2⟩, Nat.le_refl _, by simp, (Fr.refl _ _).alloc _⟩

end Go.Proofs.Ythnaieeaominjaa
