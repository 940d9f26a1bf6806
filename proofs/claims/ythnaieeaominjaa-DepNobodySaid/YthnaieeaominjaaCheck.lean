/-
  Package conf: Check.
-/
import Derived.Test.YthnaieeaominjaaMay
import Derived.Test.YthnaieeaominjaaOrd
namespace Go.Proofs.Ythnaieeaominjaa
open Go.RowKit
set_option linter.unusedVariables false
set_option linter.unusedSimpArgs false

/-- Is a field within its bounds? -/
def Cf.okAt (c : Cf) (k : Nat) : Bool := decide ((c.bounds.getD k (0, 0)).1 ≤ c.put.getD k 0) && decide (c.put.getD k 0 ≤ (c.bounds.getD k (0, 0)).2)
def Cf.good (c : Cf) : Bool := (List.range 16).all c.okAt

def CheckPost (c : Cf) (w : World) (e : Ending) (w' : World) : Prop := (∃ n : Int, e = .returned (.tuple #[.int .i64 n, .int .i64 (if c.good then 0 else 1)])) ∧ Fr Nil w w'

theorem index_bounds (l : List (Int × Int)) (k : Nat) (hl : l.length = 16) (hk : k < 16) (W : World) :
    (Instr.index 139 (.agg (pairs l).toArray) (.int .i64 k)).run Try.prog W = .ok (.agg #[.int .i64 (l.getD k (0, 0)).1, .int .i64 (l.getD k (0, 0)).2]) W := by
  obtain ⟨x0, x1, x2, x3, x4, x5, x6, x7, x8, x9, x10, x11, x12, x13, x14, x15, rfl⟩ : ∃ x0 x1 x2 x3 x4 x5 x6 x7 x8 x9 x10 x11 x12 x13 x14 x15 : Int × Int, l = [x0, x1, x2, x3, x4, x5, x6, x7, x8, x9, x10, x11, x12, x13, x14, x15] := by
    match l, hl with
    | [x0, x1, x2, x3, x4, x5, x6, x7, x8, x9, x10, x11, x12, x13, x14, x15], _ => exact ⟨x0, x1, x2, x3, x4, x5, x6, x7, x8, x9, x10, x11, x12, x13, x14, x15, rfl⟩
  have hc : k = 0 ∨ k = 1 ∨ k = 2 ∨ k = 3 ∨ k = 4 ∨ k = 5 ∨ k = 6 ∨ k = 7 ∨ k = 8 ∨ k = 9 ∨ k = 10 ∨ k = 11 ∨ k = 12 ∨ k = 13 ∨ k = 14 ∨ k = 15 := by omega
  rcases hc with rfl | rfl | rfl | rfl | rfl | rfl | rfl | rfl | rfl | rfl | rfl | rfl | rfl | rfl | rfl | rfl <;> (refine Eq.trans ?_ rfl; kernel_rfl)

theorem good_false {c : Cf} {k : Nat} (hk : k < 16) (h : c.okAt k = false) : c.good = false := by
  rw [Cf.good, List.all_eq_false]
  exact ⟨k, List.mem_range.2 hk, by rw [h]; simp⟩
theorem good_true {c : Cf} (h : ∀ k, k < 16 → c.okAt k = true) : c.good = true := by
  rw [Cf.good, List.all_eq_true]
  exact fun k hk => h k (List.mem_range.1 hk)

set_option maxRecDepth 100000 in
set_option maxHeartbeats 1600000 in
theorem conf_check (c : Cf) (w : World) : Calls Try.prog 23 #[c.val] w (CheckPost c w) := by
  have HP := fun W => Lib.hid (conf_put c W)
  have HM := fun W => Lib.hid (conf_may c W)
  have hpl : c.put.length = 16 := rfl
  have hbl : c.bounds.length = 16 := rfl
  have HI := fun k hk W => Lib.hid (index_bounds c.bounds k hbl hk W)
  have HOK := Lib.hid (show ∀ k, c.okAt k = (decide ((c.bounds.getD k (0, 0)).1 ≤ c.put.getD k 0) && decide (c.put.getD k 0 ≤ (c.bounds.getD k (0, 0)).2)) from fun _ => rfl)
  have HG1 : Hid (∀ k, k < 16 → c.okAt k = false → c.good = false) := Lib.hid (fun k hk h => good_false hk h)
  have HG2 : Hid ((∀ k, k < 16 → c.okAt k = true) → c.good = true) := Lib.hid good_true
  unfold CheckPost
  generalize c.good = good at *
  generalize c.okAt = okAt at *
  generalize c.bounds = bs at *
  have HPL := Lib.hid hpl
  clear hpl hbl
  generalize c.put = ps at *
  obtain ⟨p0, p1, p2, p3, p4, p5, p6, p7, p8, p9, p10, p11, p12, p13, p14, p15, hps⟩ : ∃ p0 p1 p2 p3 p4 p5 p6 p7 p8 p9 p10 p11 p12 p13 p14 p15 : Int, ps = [p0, p1, p2, p3, p4, p5, p6, p7, p8, p9, p10, p11, p12, p13, p14, p15] := by
    have := HPL.out
    match ps, this with
    | [p0, p1, p2, p3, p4, p5, p6, p7, p8, p9, p10, p11, p12, p13, p14, p15], _ => exact ⟨p0, p1, p2, p3, p4, p5, p6, p7, p8, p9, p10, p11, p12, p13, p14, p15, rfl⟩
  have HPS := Lib.hid hps
  rw [hps] at HP
  simp only [ints, List.map_cons, List.map_nil] at HP
  clear hps
  obtain ⟨c0, c1, c2, c3, c4, c5, c6, c7, c8, c9, c10, c11, c12, c13, c14, c15⟩ := c
  unfold Cf.val Cf.cells at *
  simp only at *
  go_enter Try.func23, Try.ntmps23
  go_wp2_with fail
  refine (HP _).out.mono ?_
  rintro e w1 ⟨rfl, hf1⟩
  have hb1 := ((Blk.new w (.cells #[.int .i64 c0, .int .i64 c1, .int .i64 c2, .int .i64 c3, .int .i64 c4, .int .i64 c5, .int .u64 c6, .int .u64 c7, .int .i64 c8, .int .i64 c9, .int .u64 c10, .int .i64 c11, .int .u64 c12, .int .u64 c13, .int .i64 c14, .int .i64 c15] 24)).fr hf1 (fun x => x)).alloc (.cells #[.int .i64 p0, .int .i64 p1, .int .i64 p2, .int .i64 p3, .int .i64 p4, .int .i64 p5, .int .i64 p6, .int .i64 p7, .int .i64 p8, .int .i64 p9, .int .i64 p10, .int .i64 p11, .int .i64 p12, .int .i64 p13, .int .i64 p14, .int .i64 p15] 135)
  have hb2 := Blk.new w1 (.cells #[.int .i64 p0, .int .i64 p1, .int .i64 p2, .int .i64 p3, .int .i64 p4, .int .i64 p5, .int .i64 p6, .int .i64 p7, .int .i64 p8, .int .i64 p9, .int .i64 p10, .int .i64 p11, .int .i64 p12, .int .i64 p13, .int .i64 p14, .int .i64 p15] 135)
  have g2 : Fr Nil w (w1.alloc (.cells #[.int .i64 p0, .int .i64 p1, .int .i64 p2, .int .i64 p3, .int .i64 p4, .int .i64 p5, .int .i64 p6, .int .i64 p7, .int .i64 p8, .int .i64 p9, .int .i64 p10, .int .i64 p11, .int .i64 p12, .int .i64 p13, .int .i64 p14, .int .i64 p15] 135)) := (((Fr.refl _ _).alloc _).trans hf1).alloc _
  have q0 := hb1.cell 0
  have q1 := hb1.cell 1
  have q2 := hb1.cell 2
  have q3 := hb1.cell 3
  have q4 := hb1.cell 4
  have q5 := hb1.cell 5
  have q6 := hb1.cell 6
  have q7 := hb1.cell 7
  have q8 := hb1.cell 8
  have q9 := hb1.cell 9
  have q10 := hb1.cell 10
  have q11 := hb1.cell 11
  have q12 := hb1.cell 12
  have q13 := hb1.cell 13
  have q14 := hb1.cell 14
  have q15 := hb1.cell 15
  simp at q0 q1 q2 q3 q4 q5 q6 q7 q8 q9 q10 q11 q12 q13 q14 q15
  clear hf1 hb1
  go_wp2_with fail
  generalize w1.alloc (.cells #[.int .i64 p0, .int .i64 p1, .int .i64 p2, .int .i64 p3, .int .i64 p4, .int .i64 p5, .int .i64 p6, .int .i64 p7, .int .i64 p8, .int .i64 p9, .int .i64 p10, .int .i64 p11, .int .i64 p12, .int .i64 p13, .int .i64 p14, .int .i64 p15] 135) = w2 at *
  have hbP : Blk w2 w1.heap.size (.cells (ints ps).toArray 135 (0, 0)) := by rw [HPS.out]; exact hb2
  clear hb2 q0 q1 q2 q3 q4 q5 q6 q7 q8 q9 q10 q11 q12 q13 q14 q15 HPS
  refine (HM w2).out.mono ?_
  rintro e w3 ⟨rfl, hf3⟩
  have hbP3 := hbP.fr hf3 (fun x => x)
  have g3 := g2.trans hf3
  clear hbP g2 hf3
  generalize hB : w1.heap.size = B at *
  clear hB HM HP
  go_wp2_with fail
  go_loopw [11] (fun t wr => ∃ k : Nat, k ≤ 16 ∧ t = .int .i64 k ∧ Hid (∀ j, j < k → okAt j = true) ∧ Blk wr B (.cells (ints ps).toArray 135 (0, 0)) ∧ Fr Nil w wr) (fun t _ => 16 - (intOf t).toNat)
  case atStart => exact ⟨0, by omega, rfl, Lib.hid (fun j hj => absurd hj (Nat.not_lt_zero _)), hbP3, g3⟩
  case round =>
    obtain ⟨k, hk, rfl, hall, hbP, hfr⟩ := hrel
    by_cases hlt : k < 16
    · have HIk := fun W => HI k hlt W
      have hcell := hbP.cell k
      rw [show (ints ps).toArray[k]? = some (.int .i64 (ps.getD k 0)) by
        have hl := HPL.out
        rw [List.getElem?_toArray, ints_get ps k (by omega), List.getD_eq_getElem?_getD, List.getElem?_eq_getElem (by omega)]; rfl] at hcell
      have HOKk := Lib.hid (HOK.out k)
      generalize ps.getD k 0 = f at *
      generalize hlo : (bs.getD k (0, 0)).1 = lo at *
      generalize hhi : (bs.getD k (0, 0)).2 = hi at *
      clear hlo hhi HI HOK
      have hkb : k < 9223372036854775807 := by omega
      have hb4 := Blk.new wr (.cells #[.int .i64 lo, .int .i64 hi] 138)
      have hbP4 := hbP.alloc (.cells #[.int .i64 lo, .int .i64 hi] 138)
      have g4 := hfr.alloc (.cells #[.int .i64 lo, .int .i64 hi] 138)
      have c0 := (hb4.cell 0).trans (show _ = some (.int .i64 lo) from rfl)
      have c1 := (hb4.cell 1).trans (show _ = some (.int .i64 hi) from rfl)
      have cB := hbP4.cell k
      rw [← hbP.cell, hcell] at cB
      have hix := fun W => (HIk W).out
      have hkI : (k : Int) < 16 := by omega
      have hk0 : (0 : Int) ≤ (k : Int) := by omega
      by_cases h1 : f < lo
      · obtain rfl : good = false := HG1.out k hlt (by rw [HOKk.out, decide_eq_false (by omega)]; rfl)
        have hd1 : decide (f < lo) = true := by simpa using h1
        clear h1 HOKk HG1 HG2
        go_wp2_with fail
        generalize wr.alloc (.cells #[.int .i64 lo, .int .i64 hi] 138) = w4 at *
        refine region_ord (fun w' => w'.cell? ⟨B, k, none⟩ = some (.int .i64 f) ∧ w'.cell? ⟨wr.heap.size, 0, none⟩ = some (.int .i64 lo) ∧ w'.cell? ⟨wr.heap.size, 1, none⟩ = some (.int .i64 hi)) [(true, 0), (true, 1), (true, 2), (true, 3), (true, 4), (true, 5), (true, 6), (true, 7), (true, 8), (true, 9), (true, 10), (true, 11), (true, 12), (false, 13)] (by kernel_rfl) (by kernel_rfl) (fun _ _ d _ _ h => by cases d <;> exact h) ⟨cB, c0, c1⟩ ?_
        simp only [opsAt, List.filterMap_cons, List.filterMap_nil, List.getElem?_toArray, List.getElem?_cons_zero, List.getElem?_cons_succ, Option.map_some]
        repeat (first | ((refine seqS_take (v := ?_) rfl ?_ ?_); rotate_left; (focus (intro wS hS; (try unfold BaseC BaseS CallS at hS); go_split_ands; go_simp; first | done | with_reducible rfl)); (simp only [Act.put, List.setIfInBounds_toArray, List.set_cons_zero, List.set_cons_succ])) | ((refine seqS_skip rfl ?_); (simp only [Act.put, List.setIfInBounds_toArray, List.set_cons_zero, List.set_cons_succ])))
        refine seqS_last ?_
        go_wp2_with fail
        go_ret2
        exact ⟨⟨_, rfl⟩, g4.drewN 1⟩
      · have hd1 : decide (f < lo) = false := by simpa using h1
        by_cases h2 : hi < f
        · obtain rfl : good = false := HG1.out k hlt (by rw [HOKk.out, decide_eq_true (by omega : lo ≤ f), decide_eq_false (by omega : ¬ f ≤ hi)]; rfl)
          have hd2 : decide (hi < f) = true := by simpa using h2
          clear h1 h2 HOKk HG1 HG2
          go_wp2_with fail
          generalize wr.alloc (.cells #[.int .i64 lo, .int .i64 hi] 138) = w4 at *
          refine region_ord (fun w' => w'.cell? ⟨B, k, none⟩ = some (.int .i64 f) ∧ w'.cell? ⟨wr.heap.size, 0, none⟩ = some (.int .i64 lo) ∧ w'.cell? ⟨wr.heap.size, 1, none⟩ = some (.int .i64 hi)) [(true, 0), (true, 1), (true, 2), (true, 3), (true, 4), (true, 5), (true, 6), (true, 7), (true, 8), (true, 9), (true, 10), (true, 11), (true, 12), (false, 13)] (by kernel_rfl) (by kernel_rfl) (fun _ _ d _ _ h => by cases d <;> exact h) ⟨cB, c0, c1⟩ ?_
          simp only [opsAt, List.filterMap_cons, List.filterMap_nil, List.getElem?_toArray, List.getElem?_cons_zero, List.getElem?_cons_succ, Option.map_some]
          repeat (first | ((refine seqS_take (v := ?_) rfl ?_ ?_); rotate_left; (focus (intro wS hS; (try unfold BaseC BaseS CallS at hS); go_split_ands; go_simp; first | done | with_reducible rfl)); (simp only [Act.put, List.setIfInBounds_toArray, List.set_cons_zero, List.set_cons_succ])) | ((refine seqS_skip rfl ?_); (simp only [Act.put, List.setIfInBounds_toArray, List.set_cons_zero, List.set_cons_succ])))
          refine seqS_last ?_
          go_wp2_with fail
          go_ret2
          exact ⟨⟨_, rfl⟩, g4.drewN 1⟩
        · have hd2 : decide (hi < f) = false := by simpa using h2
          have hall2 : Hid (∀ j, j < k + 1 → okAt j = true) := Lib.hid (fun j hj => by
            rcases Nat.lt_or_ge j k with h | h
            · exact hall.out j h
            · obtain rfl : j = k := by omega
              rw [HOKk.out, decide_eq_true (by omega : lo ≤ f), decide_eq_true (by omega : f ≤ hi)]; rfl)
          clear h1 h2 HOKk
          go_wp2_with fail
          generalize wr.alloc (.cells #[.int .i64 lo, .int .i64 hi] 138) = w4 at *
          refine region_ord (fun w' => w'.cell? ⟨B, k, none⟩ = some (.int .i64 f) ∧ w'.cell? ⟨wr.heap.size, 0, none⟩ = some (.int .i64 lo) ∧ w'.cell? ⟨wr.heap.size, 1, none⟩ = some (.int .i64 hi)) [(true, 0), (true, 1), (true, 2), (true, 3), (true, 4), (true, 5), (true, 6), (true, 7), (true, 8), (true, 9), (true, 10), (true, 11), (true, 12), (false, 13)] (by kernel_rfl) (by kernel_rfl) (fun _ _ d _ _ h => by cases d <;> exact h) ⟨cB, c0, c1⟩ ?_
          simp only [opsAt, List.filterMap_cons, List.filterMap_nil, List.getElem?_toArray, List.getElem?_cons_zero, List.getElem?_cons_succ, Option.map_some]
          repeat (first | ((refine seqS_take (v := ?_) rfl ?_ ?_); rotate_left; (focus (intro wS hS; (try unfold BaseC BaseS CallS at hS); go_split_ands; go_simp; first | done | with_reducible rfl)); (simp only [Act.put, List.setIfInBounds_toArray, List.set_cons_zero, List.set_cons_succ])) | ((refine seqS_skip rfl ?_); (simp only [Act.put, List.setIfInBounds_toArray, List.set_cons_zero, List.set_cons_succ])))
          refine seqS_last ?_
          go_wp2_with fail
          go_roundw
          case rel => first | exact ⟨k + 1, by omega, by go_num, hall2, hbP4.drewN 1, g4.drewN 1⟩ | ((repeat apply Exists.intro); exact ⟨⟨k + 1, by omega, by go_num, hall2, hbP4.drewN 1, g4.drewN 1⟩, rfl⟩)
          case measure => simp [intOf]; omega
    · obtain rfl : k = 16 := by omega
      obtain rfl : good = true := HG2.out hall.out
      clear HI HOK
      go_wp2_with fail
      go_ret2
      exact ⟨⟨_, rfl⟩, hfr⟩

end Go.Proofs.Ythnaieeaominjaa
