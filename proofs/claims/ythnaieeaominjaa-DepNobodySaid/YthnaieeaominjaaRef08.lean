/-
  The reference's Check: it says what conf.Check says.
-/
import Derived.Test.YthnaieeaominjaaNew
namespace Go.Proofs.Ythnaieeaominjaa
open Go.RowKit
set_option linter.unusedVariables false
set_option linter.unusedSimpArgs false

def inB (n lo hi : Int) : Bool := decide (lo ≤ n) && decide (n ≤ hi)
def onlyB (b : Bool) (n lo hi : Int) : Bool := if b then inB n lo hi else n == 0

theorem ref_in (n lo hi : Int) (w : World) : Calls Try.prog 54 #[.int .i64 n, .int .i64 lo, .int .i64 hi] w fun e w' => e = .returned (.bool (inB n lo hi)) ∧ w = w' := by
  unfold inB
  by_cases h : lo ≤ n
  · have hd : decide (lo ≤ n) = true := by simpa using h
    rw [hd]
    generalize hx : decide (n ≤ hi) = x
    go_enter Try.func54, Try.ntmps54
    go_wp2_with fail
    go_ret
    exact ⟨by simp [hx], rfl⟩
  · have hd : decide (lo ≤ n) = false := by simpa using h
    rw [hd]
    go_enter Try.func54, Try.ntmps54
    go_wp2_with fail
    go_ret
    exact ⟨rfl, rfl⟩
theorem ref_ticks (n lo : Int) (w : World) : Calls Try.prog 56 #[.int .u64 n, .int .u64 lo] w fun e w' => e = .returned (.bool (inB n lo 1099511627776)) ∧ w = w' := by
  unfold inB
  by_cases h : lo ≤ n
  · have hd : decide (lo ≤ n) = true := by simpa using h
    rw [hd]
    generalize hx : decide (n ≤ 1099511627776) = x
    go_enter Try.func56, Try.ntmps56
    go_wp2_with fail
    go_ret
    exact ⟨by simp [hx], rfl⟩
  · have hd : decide (lo ≤ n) = false := by simpa using h
    rw [hd]
    go_enter Try.func56, Try.ntmps56
    go_wp2_with fail
    go_ret
    exact ⟨rfl, rfl⟩
theorem ref_only (b : Bool) (n lo hi : Int) (w : World) : Calls Try.prog 55 #[.bool b, .int .i64 n, .int .i64 lo, .int .i64 hi] w fun e w' => e = .returned (.bool (onlyB b n lo hi)) ∧ w = w' := by
  have HI := fun W => Lib.hid (ref_in n lo hi W)
  unfold onlyB
  generalize inB n lo hi = x at *
  cases b
  · go_enter Try.func55, Try.ntmps55
    go_wp2_with fail
    go_ret
    exact ⟨rfl, rfl⟩
  · go_enter Try.func55, Try.ntmps55
    go_wp2_with fail
    refine (HI _).out.mono ?_
    rintro e w' ⟨rfl, rfl⟩
    go_wp2_with fail
    go_ret
    exact ⟨rfl, rfl⟩

def Cf.oks (c : Cf) : List Bool := [inB c.mode 1 2, onlyB (c.mode == 1) c.pool 1 8, onlyB (c.mode == 1) c.queue 0 8, onlyB (c.mode == 2) c.sem 1 8, inB c.fb 0 4, inB c.chain 0 3, inB c.tmo 1 1099511627776, inB c.fbt 1 1099511627776, inB c.vol 1 1000, inB c.pct 0 100, inB c.sleep 0 1099511627776, inB c.bkts 1 8, inB c.width 1 1099511627776, inB c.win 0 1099511627776, onlyB (decide (0 < c.win)) c.bat 1 4, inB c.force 0 2]
theorem oks_at (c : Cf) (ht : c.Typed) : ∀ k, k < 16 → c.oks.getD k false = c.okAt k := by
  obtain ⟨h0, h1, h2, h3, h4, h5, h6, h7, h8, h9, h10, h11, h12, h13, h14, h15⟩ := ht
  unfold U64 at h6 h7 h10 h12 h13
  intro k hk
  have hc : k = 0 ∨ k = 1 ∨ k = 2 ∨ k = 3 ∨ k = 4 ∨ k = 5 ∨ k = 6 ∨ k = 7 ∨ k = 8 ∨ k = 9 ∨ k = 10 ∨ k = 11 ∨ k = 12 ∨ k = 13 ∨ k = 14 ∨ k = 15 := by omega
  rcases hc with rfl | rfl | rfl | rfl | rfl | rfl | rfl | rfl | rfl | rfl | rfl | rfl | rfl | rfl | rfl | rfl <;>
    (rw [Bool.eq_iff_iff, okAt_iff]; simp [Cf.oks, Cf.bounds, Cf.put, inB, onlyB, wrap64]) <;> (first | omega | (split <;> (try simp) <;> omega))
def RefPost (c : Cf) (w : World) (e : Ending) (w' : World) : Prop := ∃ n : Int, e = .returned (.int .i64 n) ∧ 0 ≤ n ∧ n ≤ 16 ∧ (n = 0 ↔ c.good = true) ∧ Fr Nil w w'
theorem good_false_of {c : Cf} (ht : c.Typed) {k : Nat} (hk : k < 16) (h : c.oks.getD k false = false) : c.good = false := good_false hk ((oks_at c ht k hk).symm.trans h)
theorem good_true_of {c : Cf} (ht : c.Typed) (h : ∀ k, k < 16 → c.oks.getD k false = true) : c.good = true := good_true fun k hk => (oks_at c ht k hk).symm.trans (h k hk)

set_option maxRecDepth 100000 in
set_option maxHeartbeats 6400000 in
theorem ref_check (c : Cf) (w : World) (ht : c.Typed) : Calls Try.prog 20 #[c.val] w (RefPost c w) := by
  have HS : ∀ k, k < 16 → c.oks.getD k false = false → c.good = false := fun k hk h => good_false_of ht hk h
  have HT : (∀ k, k < 16 → c.oks.getD k false = true) → c.good = true := fun h => good_true_of ht h
  have HS2 := Lib.hid HS
  have HT2 := Lib.hid HT
  clear HS HT ht
  unfold RefPost
  have hb0 := (Blk.new w (.cells c.cells 24)).drewN 1
  have g0 : Fr Nil w ((w.alloc (.cells c.cells 24)).drewN 1) := ((Fr.refl _ _).alloc _).drewN 1
  have hs0 := cfS hb0
  unfold Cf.cells at hb0 g0 hs0
  unfold Cf.val Cf.cells
  go_enter Try.func20, Try.ntmps20
  go_wp2_with fail
  refine region_ord (CfS w.heap.size c) [(true, 0), (true, 1), (true, 3), (true, 4), (true, 5), (true, 6), (true, 7), (true, 9), (true, 10), (true, 11), (true, 12), (true, 13), (true, 15), (true, 16), (true, 17), (true, 18), (true, 19), (true, 21), (true, 22), (true, 24), (true, 25), (true, 27), (true, 28), (true, 30), (true, 31), (true, 33), (true, 34), (true, 36), (true, 37), (true, 39), (true, 40), (true, 42), (true, 43), (true, 45), (true, 46), (true, 48), (true, 49), (true, 51), (true, 52), (true, 53), (true, 54), (true, 55), (true, 57), (true, 58), (false, 2), (false, 8), (false, 14), (false, 20), (false, 23), (false, 26), (false, 29), (false, 32), (false, 35), (false, 38), (false, 41), (false, 44), (false, 47), (false, 50), (false, 56), (false, 59), (false, 60), (false, 61)] (by kernel_rfl) (by kernel_rfl) (fun _ _ d _ _ h => by cases d <;> exact h) hs0 ?_
  simp only [opsAt, List.filterMap_cons, List.filterMap_nil, List.getElem?_toArray, List.getElem?_cons_zero, List.getElem?_cons_succ, Option.map_some]
  repeat ((refine seqS_take (v := ?_) rfl ?_ ?_); rotate_left; (focus (intro wS hS; unfold CfS at hS; go_split_ands; go_simp; first | done | with_reducible rfl)); (simp only [Act.put, List.setIfInBounds_toArray, List.set_cons_zero, List.set_cons_succ]))
  generalize (w.alloc (.cells #[.int .i64 c.mode, .int .i64 c.pool, .int .i64 c.queue, .int .i64 c.sem, .int .i64 c.fb, .int .i64 c.chain, .int .u64 c.tmo, .int .u64 c.fbt, .int .i64 c.vol, .int .i64 c.pct, .int .u64 c.sleep, .int .i64 c.bkts, .int .u64 c.width, .int .u64 c.win, .int .i64 c.bat, .int .i64 c.force] 24)).drewN 1 = w1 at *
  refine seqS_more ?_
  go_wp2_with fail
  refine (ref_in c.mode 1 2 _).mono ?_
  rintro e w' ⟨rfl, rfl⟩
  go_wp2_with fail
  refine Thn.mk ⟨hs0, ?_⟩
  refine seqS_more ?_
  go_wp2_with fail
  refine (ref_only (c.mode == 1) c.pool 1 8 _).mono ?_
  rintro e w' ⟨rfl, rfl⟩
  go_wp2_with fail
  refine Thn.mk ⟨hs0, ?_⟩
  refine seqS_more ?_
  go_wp2_with fail
  refine (ref_only (c.mode == 1) c.queue 0 8 _).mono ?_
  rintro e w' ⟨rfl, rfl⟩
  go_wp2_with fail
  refine Thn.mk ⟨hs0, ?_⟩
  refine seqS_more ?_
  go_wp2_with fail
  refine (ref_only (c.mode == 2) c.sem 1 8 _).mono ?_
  rintro e w' ⟨rfl, rfl⟩
  go_wp2_with fail
  refine Thn.mk ⟨hs0, ?_⟩
  refine seqS_more ?_
  go_wp2_with fail
  refine (ref_in c.fb 0 4 _).mono ?_
  rintro e w' ⟨rfl, rfl⟩
  go_wp2_with fail
  refine Thn.mk ⟨hs0, ?_⟩
  refine seqS_more ?_
  go_wp2_with fail
  refine (ref_in c.chain 0 3 _).mono ?_
  rintro e w' ⟨rfl, rfl⟩
  go_wp2_with fail
  refine Thn.mk ⟨hs0, ?_⟩
  refine seqS_more ?_
  go_wp2_with fail
  refine (ref_ticks c.tmo 1 _).mono ?_
  rintro e w' ⟨rfl, rfl⟩
  go_wp2_with fail
  refine Thn.mk ⟨hs0, ?_⟩
  refine seqS_more ?_
  go_wp2_with fail
  refine (ref_ticks c.fbt 1 _).mono ?_
  rintro e w' ⟨rfl, rfl⟩
  go_wp2_with fail
  refine Thn.mk ⟨hs0, ?_⟩
  refine seqS_more ?_
  go_wp2_with fail
  refine (ref_in c.vol 1 1000 _).mono ?_
  rintro e w' ⟨rfl, rfl⟩
  go_wp2_with fail
  refine Thn.mk ⟨hs0, ?_⟩
  refine seqS_more ?_
  go_wp2_with fail
  refine (ref_in c.pct 0 100 _).mono ?_
  rintro e w' ⟨rfl, rfl⟩
  go_wp2_with fail
  refine Thn.mk ⟨hs0, ?_⟩
  refine seqS_more ?_
  go_wp2_with fail
  refine (ref_ticks c.sleep 0 _).mono ?_
  rintro e w' ⟨rfl, rfl⟩
  go_wp2_with fail
  refine Thn.mk ⟨hs0, ?_⟩
  refine seqS_more ?_
  go_wp2_with fail
  refine (ref_in c.bkts 1 8 _).mono ?_
  rintro e w' ⟨rfl, rfl⟩
  go_wp2_with fail
  refine Thn.mk ⟨hs0, ?_⟩
  refine seqS_more ?_
  go_wp2_with fail
  refine (ref_ticks c.width 1 _).mono ?_
  rintro e w' ⟨rfl, rfl⟩
  go_wp2_with fail
  refine Thn.mk ⟨hs0, ?_⟩
  refine seqS_more ?_
  go_wp2_with fail
  refine (ref_ticks c.win 0 _).mono ?_
  rintro e w' ⟨rfl, rfl⟩
  go_wp2_with fail
  refine Thn.mk ⟨hs0, ?_⟩
  refine seqS_more ?_
  go_wp2_with fail
  refine (ref_only (decide (0 < c.win)) c.bat 1 4 _).mono ?_
  rintro e w' ⟨rfl, rfl⟩
  go_wp2_with fail
  refine Thn.mk ⟨hs0, ?_⟩
  refine seqS_more ?_
  go_wp2_with fail
  refine (ref_in c.force 0 2 _).mono ?_
  rintro e w' ⟨rfl, rfl⟩
  go_wp2_with fail
  refine Thn.mk ⟨hs0, ?_⟩
  refine seqS_more ?_
  go_wp2_with fail
  have hbl := Blk.new w1 (.cells #[.bool (inB c.mode 1 2), .bool (onlyB (c.mode == 1) c.pool 1 8), .bool (onlyB (c.mode == 1) c.queue 0 8), .bool (onlyB (c.mode == 2) c.sem 1 8), .bool (inB c.fb 0 4), .bool (inB c.chain 0 3), .bool (inB c.tmo 1 1099511627776), .bool (inB c.fbt 1 1099511627776), .bool (inB c.vol 1 1000), .bool (inB c.pct 0 100), .bool (inB c.sleep 0 1099511627776), .bool (inB c.bkts 1 8), .bool (inB c.width 1 1099511627776), .bool (inB c.win 0 1099511627776), .bool (onlyB (decide (0 < c.win)) c.bat 1 4), .bool (inB c.force 0 2)] 4)
  have g1 : Fr Nil w (w1.alloc (.cells #[.bool (inB c.mode 1 2), .bool (onlyB (c.mode == 1) c.pool 1 8), .bool (onlyB (c.mode == 1) c.queue 0 8), .bool (onlyB (c.mode == 2) c.sem 1 8), .bool (inB c.fb 0 4), .bool (inB c.chain 0 3), .bool (inB c.tmo 1 1099511627776), .bool (inB c.fbt 1 1099511627776), .bool (inB c.vol 1 1000), .bool (inB c.pct 0 100), .bool (inB c.sleep 0 1099511627776), .bool (inB c.bkts 1 8), .bool (inB c.width 1 1099511627776), .bool (inB c.win 0 1099511627776), .bool (onlyB (decide (0 < c.win)) c.bat 1 4), .bool (inB c.force 0 2)] 4)) := g0.alloc _
  have hs1 : CfS w.heap.size c (w1.alloc (.cells #[.bool (inB c.mode 1 2), .bool (onlyB (c.mode == 1) c.pool 1 8), .bool (onlyB (c.mode == 1) c.queue 0 8), .bool (onlyB (c.mode == 2) c.sem 1 8), .bool (inB c.fb 0 4), .bool (inB c.chain 0 3), .bool (inB c.tmo 1 1099511627776), .bool (inB c.fbt 1 1099511627776), .bool (inB c.vol 1 1000), .bool (inB c.pct 0 100), .bool (inB c.sleep 0 1099511627776), .bool (inB c.bkts 1 8), .bool (inB c.width 1 1099511627776), .bool (inB c.win 0 1099511627776), .bool (onlyB (decide (0 < c.win)) c.bat 1 4), .bool (inB c.force 0 2)] 4)) := cfS (c := c) (hb0.alloc _)
  refine Thn.mk ⟨hs1, ?_⟩
  obtain ⟨bl, hbe⟩ : ∃ bl, bl = w1.heap.size := ⟨_, rfl⟩
  rw [← hbe] at hbl ⊢
  clear hs0 hs1 hb0 g0 hbe
  generalize w1.alloc (.cells #[.bool (inB c.mode 1 2), .bool (onlyB (c.mode == 1) c.pool 1 8), .bool (onlyB (c.mode == 1) c.queue 0 8), .bool (onlyB (c.mode == 2) c.sem 1 8), .bool (inB c.fb 0 4), .bool (inB c.chain 0 3), .bool (inB c.tmo 1 1099511627776), .bool (inB c.fbt 1 1099511627776), .bool (inB c.vol 1 1000), .bool (inB c.pct 0 100), .bool (inB c.sleep 0 1099511627776), .bool (inB c.bkts 1 8), .bool (inB c.width 1 1099511627776), .bool (inB c.win 0 1099511627776), .bool (onlyB (decide (0 < c.win)) c.bat 1 4), .bool (inB c.force 0 2)] 4) = w2 at *
  have hok : ∀ k, k < 16 → w2.cell? ⟨bl, k, none⟩ = some (.bool (c.oks.getD k false)) := fun k hk => by
    rw [hbl.cell]
    have hc : k = 0 ∨ k = 1 ∨ k = 2 ∨ k = 3 ∨ k = 4 ∨ k = 5 ∨ k = 6 ∨ k = 7 ∨ k = 8 ∨ k = 9 ∨ k = 10 ∨ k = 11 ∨ k = 12 ∨ k = 13 ∨ k = 14 ∨ k = 15 := by omega
    rcases hc with rfl | rfl | rfl | rfl | rfl | rfl | rfl | rfl | rfl | rfl | rfl | rfl | rfl | rfl | rfl | rfl <;> rfl
  have HOk := Lib.hid hok
  clear hok hbl
  generalize c.oks = oks at *
  refine seqS_last ?_
  go_wp2_with fail
  go_loop [4] (fun t => ∃ k : Nat, k ≤ 16 ∧ t = .int .i64 k ∧ Hid (∀ j, j < k → oks.getD j false = true)) (fun t => 16 - (intOf t).toNat)
  case atStart => exact ⟨0, by omega, rfl, Lib.hid (fun j hj => absurd hj (Nat.not_lt_zero _))⟩
  case round =>
    obtain ⟨k, hk, rfl, hall⟩ := hrel
    by_cases hlt : k < 16
    · have hcell := HOk.out k hlt
      have hkI : (k : Int) < 16 := by omega
      cases hb : oks.getD k false
      · rw [hb] at hcell
        have HG : c.good = false := HS2.out k hlt hb
        clear hb
        go_wp2_with fail
        go_ret
        exact ⟨(k : Int) + 1, by first | rfl | go_num, by omega, by omega, by first | exact ⟨fun h => absurd h (by omega), fun h => by rw [HG] at h; cases h⟩ | (intro h; omega), g1⟩
      · rw [hb] at hcell
        have hall2 : Hid (∀ j, j < k + 1 → oks.getD j false = true) := Lib.hid (fun j hj => by
          rcases Nat.lt_or_ge j k with h | h
          · exact hall.out j h
          · obtain rfl : j = k := by omega
            exact hb)
        clear hb
        go_wp2_with fail
        go_round
        case rel => exact ⟨k + 1, by omega, by go_num, hall2⟩
        case measure => simp [intOf]; omega
    · obtain rfl : k = 16 := by omega
      go_wp2_with fail
      go_ret
      exact ⟨0, rfl, by omega, by omega, by first | exact ⟨fun _ => HT2.out hall.out, fun _ => rfl⟩ | exact HT2.out hall.out, g1⟩

end Go.Proofs.Ythnaieeaominjaa
