/-
  Package window: the bucket of a time.
-/
import Derived.Test.YthnaieeaominjaaGrid
namespace Go.Proofs.Ythnaieeaominjaa
open Go.RowKit
set_option linter.unusedVariables false
set_option linter.unusedSimpArgs false

/-- The bucket of a time: its place, and how the buckets stand then. -/
def Grid.turn (k : Nat) (g : Grid) (now : Int) : Nat × Grid :=
  let b := (max g.now now) / g.width
  let i := (b % g.n).toNat
  (i, if (g.all.getD i []).getD 0 0 = b then { g with now := max g.now now } else Grid.setRow { g with now := max g.now now } i (b :: List.replicate k 0))

def GridPost (s T : Nat) (w : World) (p : Nat) (v : Value) (g : Grid) (e : Ending) (w' : World) : Prop := e = .returned v ∧ GridAt s T w' p g ∧ Fr (Only p) w w'

theorem max_u64 {a b : Int} (ha : U64 a) (hb : U64 b) : U64 (max a b) := by unfold U64 at *; rw [Int.max_def]; split <;> omega
theorem turn_place {k : Nat} {g : Grid} {now : Int} {s : Nat} (h : g.Fine s) : (g.turn k now).1 < 8 := by
  have h1 := h.n1
  have h8 := h.n8
  simp only [Grid.turn]
  have := Int.emod_lt_of_pos (max g.now now / g.width) (show (0 : Int) < g.n by omega)
  have := Int.emod_nonneg (max g.now now / g.width) (show (g.n : Int) ≠ 0 by omega)
  omega

theorem window_size : (Try.prog.info? 151).map (·.size) = some 6 := by kernel_rfl

set_option maxRecDepth 100000 in
set_option maxHeartbeats 1600000 in
theorem window_at_core (p : Nat) (g : Grid) (now m b : Int) (i : Nat) (same : Bool) (w : World) (h : GridAt 6 154 w p g) (hnow : U64 now)
    (hm : now ≤ g.now ∧ m = g.now ∨ g.now < now ∧ m = now) (hb : b = m / g.width) (hi : b % g.n = (i : Int)) (hs : ((g.all.getD i []).getD 0 0 != b) = !same) :
    Calls Try.prog 62 #[.pointer (some ⟨p, 0, none⟩), .int .u64 now] w
      (GridPost 6 154 w p (.pointer (some ⟨p, i * 6, none⟩)) (if same then { g with now := m } else Grid.setRow { g with now := m } i (b :: List.replicate 5 0))) := by
  obtain ⟨c0, c1, c2⟩ := h.tail
  have hf := h.2
  have hn1 := hf.n1
  have hn8 := hf.n8
  have hw1 := hf.w1
  have hw2 := hf.w2
  have hgn := hf.now
  have z := h.1.free (8 * 6 + 2)
  have hmu : U64 m := by rcases hm with ⟨_, rfl⟩ | ⟨_, rfl⟩ <;> assumption
  have h1 := h.set_now hmu
  obtain ⟨d0, d1, d2⟩ := h1.tail
  have hpos : (0 : Int) < (g.n : Int) := by omega
  have hi8 : i < 8 := by
    have := Int.emod_lt_of_pos b hpos
    omega
  have hbu : U64 b := by
    unfold U64 at hmu ⊢
    subst hb
    exact ⟨Int.ediv_nonneg hmu.1 (by omega), Int.le_trans (Int.ediv_le_self _ hmu.1) hmu.2⟩
  have he := h1.elem hi8 (show 0 < 6 by omega)
  obtain ⟨cs, hg2, hf2, hrun⟩ := h1.store hi8 (r := b :: List.replicate 5 0) (by simp) (by
    intro y hy
    rcases List.mem_cons.1 hy with rfl | hy
    · exact hbu
    · rw [(List.mem_replicate.1 hy).2]; exact zero_u64)
  have hst := hrun Try.prog 151 window_size
  simp only at d0 d1 d2 he
  simp only [Nat.add_zero] at he
  generalize hv : (g.all.getD i []).getD 0 0 = v at *
  have f1 : Fr (Only p) w (w.setCell ⟨p, 8 * 6 + 2, none⟩ (.int .u64 m)) := (Fr.refl _ _).setAt _ (Only.self p)
  have HG := Lib.hid hg2
  have HH := Lib.hid h1
  unfold U64 at hnow hgn hmu hbu
  obtain ⟨hnow, hnow'⟩ := hnow
  obtain ⟨hgn, hgn'⟩ := hgn
  obtain ⟨hmu, hmu'⟩ := hmu
  obtain ⟨hbu, hbu'⟩ := hbu
  have hq : m / g.width = b := hb.symm
  have hrem : b % (g.n : Int) = (i : Int) := hi
  generalize hnn : (g.n : Int) = nn at *
  clear hg2 h1 hv hb hi hf h hrun hnn
  simp only [Nat.reduceMul, Nat.reduceAdd] at *
  rcases hm with ⟨hm, hm2⟩ | ⟨hm, hm2⟩
  all_goals
    subst hm2
    cases same
    · simp only [Bool.not_false] at hs
      go_enter Try.func62, Try.ntmps62
      go_wp2_with fail
      go_quiet (fail)
      go_wp2_with fail
      go_quiet (fail)
      go_wp2_with (refine wpList_store (T := 151) (ad := .pointer (some ⟨p, i * 6, none⟩)) (v := .agg (u64s (b :: List.replicate 5 0)).toArray) rfl rfl (hst _) ?_)
      go_ret
      exact ⟨rfl, HG.out, (f1.trans hf2).drewN _⟩
    · simp only [Bool.not_true] at hs
      go_enter Try.func62, Try.ntmps62
      go_wp2_with fail
      go_quiet (fail)
      go_wp2_with fail
      go_quiet (fail)
      go_wp2_with fail
      go_ret
      exact ⟨rfl, HH.out, f1.drewN _⟩

end Go.Proofs.Ythnaieeaominjaa
