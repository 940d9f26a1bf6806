/-
  Package health: Errors, Volume, Opens.
-/
import Derived.Test.YthnaieeaominjaaConf
import Derived.Test.YthnaieeaominjaaCounts
import Derived.ChangeKeysEq
namespace Go.Proofs.Ythnaieeaominjaa
open Go.RowKit
set_option linter.unusedVariables false
set_option linter.unusedSimpArgs false

def errorsOf (c : List Int) : Int := ssum [c.getD 1 0, c.getD 2 0, c.getD 3 0]
def volumeOf (c : List Int) : Int := sadd (c.getD 0 0) (errorsOf c)
def opensOf (c : List Int) (vol pct : Int) : Bool := decide (c ≠ [0, 0, 0, 0, 0]) && decide (max vol 1 ≤ volumeOf c) && decide (volumeOf c * max pct 0 ≤ errorsOf c * 100)

theorem errors_u64 {a b c d e : Int} (h : ∀ x ∈ [a, b, c, d, e], U64 x) : U64 (errorsOf [a, b, c, d, e]) := ssum_u64 (fun x hx => h x (by simp [List.getD] at hx ⊢; rcases hx with rfl | rfl | rfl <;> simp))

theorem health_errors (a b c d e : Int) (w : World) (h : ∀ x ∈ [a, b, c, d, e], U64 x) :
    Calls Try.prog 98 #[.agg #[.int .u64 a, .int .u64 b, .int .u64 c, .int .u64 d, .int .u64 e]] w fun en w' => en = .returned (.int .u64 (errorsOf [a, b, c, d, e])) ∧ Fr Nil w w' := by
  have HS : ∀ W g, W.heap[g]? = some (.cells #[.int .u64 b, .int .u64 c, .int .u64 d] 22 (0, 0)) → Hid (Calls Try.prog 65 #[.slice (some ⟨g, 0, none⟩) 3 3] W fun e w' => e = .returned (.int .u64 (ssum [b, c, d])) ∧ W = w') := fun W g hg =>
    Lib.hid (sat_sum g 0 3 [b, c, d] W (by simp) (fun x hx => h x (by simp at hx ⊢; rcases hx with rfl | rfl | rfl <;> simp)) (fun j hj => by
      rw [Blk.cell hg]
      simp at hj
      match j, hj with
      | 0, _ => rfl
      | 1, _ => rfl
      | 2, _ => rfl))
  have HE := Lib.hid (show errorsOf [a, b, c, d, e] = ssum [b, c, d] from rfl)
  clear h
  rw [HE.out]
  generalize ssum [b, c, d] = s at *
  go_enter Try.func98, Try.ntmps98
  go_wp2_with fail
  refine (HS _ _ (alloc_new _ _ _ (by simp))).out.mono ?_
  rintro e w' ⟨rfl, rfl⟩
  go_wp2_with fail
  go_ret
  exact ⟨rfl, ((Fr.refl _ _).alloc _).alloc _⟩

set_option maxHeartbeats 800000 in
theorem health_volume (a b c d e : Int) (w : World) (h : ∀ x ∈ [a, b, c, d, e], U64 x) :
    Calls Try.prog 97 #[.agg #[.int .u64 a, .int .u64 b, .int .u64 c, .int .u64 d, .int .u64 e]] w fun en w' => en = .returned (.int .u64 (volumeOf [a, b, c, d, e])) ∧ Fr Nil w w' := by
  have HE := fun W => Lib.hid (health_errors a b c d e W h)
  have ha : U64 a := h a (by simp)
  have he := errors_u64 h
  have HA := fun W => Lib.hid (sat_add a (errorsOf [a, b, c, d, e]) W ha he)
  have HV := Lib.hid (show volumeOf [a, b, c, d, e] = sadd a (errorsOf [a, b, c, d, e]) from rfl)
  clear h ha he
  rw [HV.out]
  generalize errorsOf [a, b, c, d, e] = s at *
  generalize sadd a s = v at *
  go_enter Try.func97, Try.ntmps97
  go_wp2_with fail
  have hb := Blk.new w (.cells #[.int .u64 a, .int .u64 b, .int .u64 c, .int .u64 d, .int .u64 e] 56)
  have g0 : Fr Nil w (w.alloc (.cells #[.int .u64 a, .int .u64 b, .int .u64 c, .int .u64 d, .int .u64 e] 56)) := (Fr.refl _ _).alloc _
  have hlt := hb.lt
  generalize w.alloc (.cells #[.int .u64 a, .int .u64 b, .int .u64 c, .int .u64 d, .int .u64 e] 56) = W0 at *
  have c0 : W0.cell? ⟨w.heap.size, 0, none⟩ = some (.int .u64 a) := by rw [hb.cell]; rfl
  have c1 : W0.cell? ⟨w.heap.size, 1, none⟩ = some (.int .u64 b) := by rw [hb.cell]; rfl
  have c2 : W0.cell? ⟨w.heap.size, 2, none⟩ = some (.int .u64 c) := by rw [hb.cell]; rfl
  have c3 : W0.cell? ⟨w.heap.size, 3, none⟩ = some (.int .u64 d) := by rw [hb.cell]; rfl
  have c4 : W0.cell? ⟨w.heap.size, 4, none⟩ = some (.int .u64 e) := by rw [hb.cell]; rfl
  clear hb
  go_region_held3 (fun w' => w'.cell? ⟨w.heap.size, 0, none⟩ = some (.int .u64 a) ∧ w'.cell? ⟨w.heap.size, 1, none⟩ = some (.int .u64 b) ∧ w'.cell? ⟨w.heap.size, 2, none⟩ = some (.int .u64 c) ∧ w'.cell? ⟨w.heap.size, 3, none⟩ = some (.int .u64 d) ∧ w'.cell? ⟨w.heap.size, 4, none⟩ = some (.int .u64 e))
    (first | (go_split_ands; exact ⟨by rw [cell_fr hf1 hlt (fun x => x)]; exact c0, by rw [cell_fr hf1 hlt (fun x => x)]; exact c1, by rw [cell_fr hf1 hlt (fun x => x)]; exact c2, by rw [cell_fr hf1 hlt (fun x => x)]; exact c3, by rw [cell_fr hf1 hlt (fun x => x)]; exact c4⟩) | exact ⟨by rw [cell_fr hf1 hlt (fun x => x)]; exact c0, by rw [cell_fr hf1 hlt (fun x => x)]; exact c1, by rw [cell_fr hf1 hlt (fun x => x)]; exact c2, by rw [cell_fr hf1 hlt (fun x => x)]; exact c3, by rw [cell_fr hf1 hlt (fun x => x)]; exact c4⟩ | go_keep)
    (first | (go_at_call 98; refine (HE _).out.mono ?_; rintro e w1 ⟨rfl, hf1⟩) | (go_at_call 63; refine (HA _).out.mono ?_; rintro e w2 ⟨rfl, rfl⟩))
  go_wp2_with fail
  go_ret
  exact ⟨rfl, (g0.trans ((Fr.refl Nil W0).drew)).trans hf1⟩


theorem eq5 (a b c d e : Int) (W : World) : (Op.equalIn 10000 56 (.agg #[.int .u64 a, .int .u64 b, .int .u64 c, .int .u64 d, .int .u64 e]) (.agg #[.int .u64 0, .int .u64 0, .int .u64 0, .int .u64 0, .int .u64 0])).run Try.prog W
    = .ok (decide ([a, b, c, d, e] = [0, 0, 0, 0, 0])) W := by
  obtain ⟨i, hi⟩ := info_of_underlying (P := Try.prog) (t := 22) (d := .int .u64) (by kernel_rfl)
  rw [run_equalIn_array W 9999 (e := 22) (n := 5) _ _ (by kernel_rfl) hi]
  have hp : Try.prog.plainKey 22 = true := by kernel_rfl
  have hc : Try.prog.cellsOf 22 = 1 := by kernel_rfl
  have hq : ∀ x W, (Op.equalIn 9999 22 (.int .u64 x) (.int .u64 0)).run Try.prog W = .ok (x == 0) W := fun x W => run_equalIn_int W 9998 _ .u64 .u64 x 0 (by kernel_rfl)
  have x0 : ∀ W, (part 22 #[.int .u64 a, .int .u64 b, .int .u64 c, .int .u64 d, .int .u64 e] 0).run Try.prog W = .ok (.int .u64 a) W := fun W => run_part_plain W hp rfl
  have y0 : ∀ W, (part 22 #[.int .u64 0, .int .u64 0, .int .u64 0, .int .u64 0, .int .u64 0] 0).run Try.prog W = .ok (.int .u64 0) W := fun W => run_part_plain W hp rfl
  have x1 : ∀ W, (part 22 #[.int .u64 a, .int .u64 b, .int .u64 c, .int .u64 d, .int .u64 e] 1).run Try.prog W = .ok (.int .u64 b) W := fun W => run_part_plain W hp rfl
  have y1 : ∀ W, (part 22 #[.int .u64 0, .int .u64 0, .int .u64 0, .int .u64 0, .int .u64 0] 1).run Try.prog W = .ok (.int .u64 0) W := fun W => run_part_plain W hp rfl
  have x2 : ∀ W, (part 22 #[.int .u64 a, .int .u64 b, .int .u64 c, .int .u64 d, .int .u64 e] 2).run Try.prog W = .ok (.int .u64 c) W := fun W => run_part_plain W hp rfl
  have y2 : ∀ W, (part 22 #[.int .u64 0, .int .u64 0, .int .u64 0, .int .u64 0, .int .u64 0] 2).run Try.prog W = .ok (.int .u64 0) W := fun W => run_part_plain W hp rfl
  have x3 : ∀ W, (part 22 #[.int .u64 a, .int .u64 b, .int .u64 c, .int .u64 d, .int .u64 e] 3).run Try.prog W = .ok (.int .u64 d) W := fun W => run_part_plain W hp rfl
  have y3 : ∀ W, (part 22 #[.int .u64 0, .int .u64 0, .int .u64 0, .int .u64 0, .int .u64 0] 3).run Try.prog W = .ok (.int .u64 0) W := fun W => run_part_plain W hp rfl
  have x4 : ∀ W, (part 22 #[.int .u64 a, .int .u64 b, .int .u64 c, .int .u64 d, .int .u64 e] 4).run Try.prog W = .ok (.int .u64 e) W := fun W => run_part_plain W hp rfl
  have y4 : ∀ W, (part 22 #[.int .u64 0, .int .u64 0, .int .u64 0, .int .u64 0, .int .u64 0] 4).run Try.prog W = .ok (.int .u64 0) W := fun W => run_part_plain W hp rfl
  generalize (#[.int .u64 a, .int .u64 b, .int .u64 c, .int .u64 d, .int .u64 e] : Array Value) = xs at *
  generalize (#[.int .u64 0, .int .u64 0, .int .u64 0, .int .u64 0, .int .u64 0] : Array Value) = ys at *
  rw [hc, show List.range 5 = [0, 1, 2, 3, 4] from rfl]
  simp only [Op.eqItems, Sem.run_bind, Nat.reduceMul, x0, x1, x2, x3, x4, y0, y1, y2, y3, y4, hq, Result.andThen_ok]
  by_cases h0 : a = 0 <;> by_cases h1 : b = 0 <;> by_cases h2 : c = 0 <;> by_cases h3 : d = 0 <;> by_cases h4 : e = 0 <;> simp [h0, h1, h2, h3, h4, x0, x1, x2, x3, x4, y0, y1, y2, y3, y4, hq]

set_option maxRecDepth 100000 in
set_option maxHeartbeats 800000 in
theorem health_opens (a b c d e : Int) (f : Cf) (w : World) (h : ∀ x ∈ [a, b, c, d, e], U64 x) (hv : I64 f.vol) (hp : I64 f.pct) :
    Calls Try.prog 79 #[.agg #[.int .u64 a, .int .u64 b, .int .u64 c, .int .u64 d, .int .u64 e], f.val] w fun en w' => en = .returned (.bool (opensOf [a, b, c, d, e] f.vol f.pct)) ∧ Fr Nil w w' := by
  have HV := fun W => Lib.hid (health_volume a b c d e W h)
  have HE := fun W => Lib.hid (health_errors a b c d e W h)
  have hvu : U64 (volumeOf [a, b, c, d, e]) := sadd_u64 (h a (by simp)) (errors_u64 h)
  have HL := fun W => Lib.hid (sat_at_least (errorsOf [a, b, c, d, e]) (volumeOf [a, b, c, d, e]) f.pct W (errors_u64 h) hvu hp)
  clear h
  obtain ⟨c0, c1, c2, c3, c4, c5, c6, c7, c8, c9, c10, c11, c12, c13, c14, c15⟩ := f
  unfold Cf.val Cf.cells opensOf
  simp only at *
  generalize volumeOf [a, b, c, d, e] = v at *
  generalize errorsOf [a, b, c, d, e] = er at *
  have HQ := eq5 a b c d e
  by_cases hz : [a, b, c, d, e] = [0, 0, 0, 0, 0]
  · have hz1 : decide ([a, b, c, d, e] = [0, 0, 0, 0, 0]) = true := by simpa using hz
    rw [hz1] at HQ
    have HZ := Lib.hid hz
    clear hz hz1
    go_enter Try.func79, Try.ntmps79
    go_wp2_with fail
    go_ret
    exact ⟨by simp [HZ.out], ((Fr.refl _ _).alloc _).alloc _⟩
  · have hz1 : decide ([a, b, c, d, e] = [0, 0, 0, 0, 0]) = false := by simpa using hz
    have hz2 : decide ([a, b, c, d, e] ≠ [0, 0, 0, 0, 0]) = true := decide_eq_true_iff.2 hz
    rw [hz1] at HQ
    rw [hz2]
    clear hz hz1 hz2
    simp only [Bool.true_and]
    unfold U64 I64 at *
    obtain ⟨hv, hv'⟩ := hv
    obtain ⟨hvu, hvu'⟩ := hvu
    have hcase : c8 < 1 ∧ max c8 1 = 1 ∨ 1 ≤ c8 ∧ max c8 1 = c8 := by rw [Int.max_def]; split <;> omega
    have hmx := hcase
    clear hcase
    rcases hmx with ⟨hc, hmx⟩ | ⟨hc, hmx⟩
    · rw [hmx]
      clear hmx
      have hw1 : IntKind.u64.wrap 1 = 1 := by kernel_rfl
      by_cases hge : 1 ≤ v
      · have hd : decide (1 ≤ v) = true := by simpa using hge
        rw [hd]
        simp only [Bool.true_and]
        generalize decide (v * max c9 0 ≤ er * 100) = ans at *
        go_enter Try.func79, Try.ntmps79
        go_wp2_with fail
        refine (HV _).out.mono ?_
        rintro en w1 ⟨rfl, hf1⟩
        have hb1 := ((Blk.new w (.cells #[.int .u64 a, .int .u64 b, .int .u64 c, .int .u64 d, .int .u64 e] 56)).alloc (.cells #[.int .i64 c0, .int .i64 c1, .int .i64 c2, .int .i64 c3, .int .i64 c4, .int .i64 c5, .int .u64 c6, .int .u64 c7, .int .i64 c8, .int .i64 c9, .int .u64 c10, .int .i64 c11, .int .u64 c12, .int .u64 c13, .int .i64 c14, .int .i64 c15] 24)).fr hf1 (fun x => x)
        have hb2 := (Blk.new (w.alloc (.cells #[.int .u64 a, .int .u64 b, .int .u64 c, .int .u64 d, .int .u64 e] 56)) (.cells #[.int .i64 c0, .int .i64 c1, .int .i64 c2, .int .i64 c3, .int .i64 c4, .int .i64 c5, .int .u64 c6, .int .u64 c7, .int .i64 c8, .int .i64 c9, .int .u64 c10, .int .i64 c11, .int .u64 c12, .int .u64 c13, .int .i64 c14, .int .i64 c15] 24)).fr hf1 (fun x => x)
        rw [World.size_alloc] at hb2
        have g1 : Fr Nil w w1 := (((Fr.refl _ _).alloc _).alloc _).trans hf1
        have hlt1 := hb1.lt
        have hlt2 := hb2.lt
        have p0 : w1.cell? ⟨w.heap.size, 0, none⟩ = some (.int .u64 a) := by rw [hb1.cell]; rfl
        have p1 : w1.cell? ⟨w.heap.size, 1, none⟩ = some (.int .u64 b) := by rw [hb1.cell]; rfl
        have p2 : w1.cell? ⟨w.heap.size, 2, none⟩ = some (.int .u64 c) := by rw [hb1.cell]; rfl
        have p3 : w1.cell? ⟨w.heap.size, 3, none⟩ = some (.int .u64 d) := by rw [hb1.cell]; rfl
        have p4 : w1.cell? ⟨w.heap.size, 4, none⟩ = some (.int .u64 e) := by rw [hb1.cell]; rfl
        have q8 : w1.cell? ⟨w.heap.size + 1, 8, none⟩ = some (.int .i64 c8) := by rw [hb2.cell]; rfl
        have q9 : w1.cell? ⟨w.heap.size + 1, 9, none⟩ = some (.int .i64 c9) := by rw [hb2.cell]; rfl
        clear hb1 hb2 hf1
        go_wp2_with fail
        go_region_held3 (fun w' => w'.cell? ⟨w.heap.size, 0, none⟩ = some (.int .u64 a) ∧ w'.cell? ⟨w.heap.size, 1, none⟩ = some (.int .u64 b) ∧ w'.cell? ⟨w.heap.size, 2, none⟩ = some (.int .u64 c) ∧ w'.cell? ⟨w.heap.size, 3, none⟩ = some (.int .u64 d) ∧ w'.cell? ⟨w.heap.size, 4, none⟩ = some (.int .u64 e) ∧ w'.cell? ⟨w.heap.size + 1, 8, none⟩ = some (.int .i64 c8) ∧ w'.cell? ⟨w.heap.size + 1, 9, none⟩ = some (.int .i64 c9))
          (first | (go_split_ands; exact ⟨by rw [cell_fr hf2 hlt1 (fun x => x)]; exact p0, by rw [cell_fr hf2 hlt1 (fun x => x)]; exact p1, by rw [cell_fr hf2 hlt1 (fun x => x)]; exact p2, by rw [cell_fr hf2 hlt1 (fun x => x)]; exact p3, by rw [cell_fr hf2 hlt1 (fun x => x)]; exact p4, by rw [cell_fr hf2 hlt2 (fun x => x)]; exact q8, by rw [cell_fr hf2 hlt2 (fun x => x)]; exact q9⟩) | exact ⟨by rw [cell_fr hf2 hlt1 (fun x => x)]; exact p0, by rw [cell_fr hf2 hlt1 (fun x => x)]; exact p1, by rw [cell_fr hf2 hlt1 (fun x => x)]; exact p2, by rw [cell_fr hf2 hlt1 (fun x => x)]; exact p3, by rw [cell_fr hf2 hlt1 (fun x => x)]; exact p4, by rw [cell_fr hf2 hlt2 (fun x => x)]; exact q8, by rw [cell_fr hf2 hlt2 (fun x => x)]; exact q9⟩ | go_keep)
          (first | (go_at_call 98; refine (HE _).out.mono ?_; rintro en w2 ⟨rfl, hf2⟩) | (go_at_call 66; refine (HL _).out.mono ?_; rintro en w3 ⟨rfl, rfl⟩))
        go_wp2_with fail
        go_ret
        exact ⟨rfl, (g1.trans ((Fr.refl Nil w1).drew)).trans hf2⟩
      · have hd : decide (1 ≤ v) = false := by simpa using hge
        rw [hd]
        simp only [Bool.false_and]
        go_enter Try.func79, Try.ntmps79
        go_wp2_with fail
        refine (HV _).out.mono ?_
        rintro en w1 ⟨rfl, hf1⟩
        have hb1 := ((Blk.new w (.cells #[.int .u64 a, .int .u64 b, .int .u64 c, .int .u64 d, .int .u64 e] 56)).alloc (.cells #[.int .i64 c0, .int .i64 c1, .int .i64 c2, .int .i64 c3, .int .i64 c4, .int .i64 c5, .int .u64 c6, .int .u64 c7, .int .i64 c8, .int .i64 c9, .int .u64 c10, .int .i64 c11, .int .u64 c12, .int .u64 c13, .int .i64 c14, .int .i64 c15] 24)).fr hf1 (fun x => x)
        have hb2 := (Blk.new (w.alloc (.cells #[.int .u64 a, .int .u64 b, .int .u64 c, .int .u64 d, .int .u64 e] 56)) (.cells #[.int .i64 c0, .int .i64 c1, .int .i64 c2, .int .i64 c3, .int .i64 c4, .int .i64 c5, .int .u64 c6, .int .u64 c7, .int .i64 c8, .int .i64 c9, .int .u64 c10, .int .i64 c11, .int .u64 c12, .int .u64 c13, .int .i64 c14, .int .i64 c15] 24)).fr hf1 (fun x => x)
        rw [World.size_alloc] at hb2
        have g1 : Fr Nil w w1 := (((Fr.refl _ _).alloc _).alloc _).trans hf1
        have q8 : w1.cell? ⟨w.heap.size + 1, 8, none⟩ = some (.int .i64 c8) := by rw [hb2.cell]; rfl
        clear hb1 hb2 hf1
        go_wp2_with fail
        go_quiet (fail)
        go_wp2_with fail
        go_ret
        exact ⟨rfl, g1.drewN _⟩
    · rw [hmx]
      clear hmx
      have hite : (if c8 < 1 then (1 : Int) else c8) = c8 := if_neg (by omega)
      have hw1 : IntKind.u64.wrap c8 = c8 := by rw [IntKind.wrap_u64]; omega
      by_cases hge : c8 ≤ v
      · have hd : decide (c8 ≤ v) = true := by simpa using hge
        rw [hd]
        simp only [Bool.true_and]
        generalize decide (v * max c9 0 ≤ er * 100) = ans at *
        go_enter Try.func79, Try.ntmps79
        go_wp2_with fail
        refine (HV _).out.mono ?_
        rintro en w1 ⟨rfl, hf1⟩
        have hb1 := ((Blk.new w (.cells #[.int .u64 a, .int .u64 b, .int .u64 c, .int .u64 d, .int .u64 e] 56)).alloc (.cells #[.int .i64 c0, .int .i64 c1, .int .i64 c2, .int .i64 c3, .int .i64 c4, .int .i64 c5, .int .u64 c6, .int .u64 c7, .int .i64 c8, .int .i64 c9, .int .u64 c10, .int .i64 c11, .int .u64 c12, .int .u64 c13, .int .i64 c14, .int .i64 c15] 24)).fr hf1 (fun x => x)
        have hb2 := (Blk.new (w.alloc (.cells #[.int .u64 a, .int .u64 b, .int .u64 c, .int .u64 d, .int .u64 e] 56)) (.cells #[.int .i64 c0, .int .i64 c1, .int .i64 c2, .int .i64 c3, .int .i64 c4, .int .i64 c5, .int .u64 c6, .int .u64 c7, .int .i64 c8, .int .i64 c9, .int .u64 c10, .int .i64 c11, .int .u64 c12, .int .u64 c13, .int .i64 c14, .int .i64 c15] 24)).fr hf1 (fun x => x)
        rw [World.size_alloc] at hb2
        have g1 : Fr Nil w w1 := (((Fr.refl _ _).alloc _).alloc _).trans hf1
        have hlt1 := hb1.lt
        have hlt2 := hb2.lt
        have p0 : w1.cell? ⟨w.heap.size, 0, none⟩ = some (.int .u64 a) := by rw [hb1.cell]; rfl
        have p1 : w1.cell? ⟨w.heap.size, 1, none⟩ = some (.int .u64 b) := by rw [hb1.cell]; rfl
        have p2 : w1.cell? ⟨w.heap.size, 2, none⟩ = some (.int .u64 c) := by rw [hb1.cell]; rfl
        have p3 : w1.cell? ⟨w.heap.size, 3, none⟩ = some (.int .u64 d) := by rw [hb1.cell]; rfl
        have p4 : w1.cell? ⟨w.heap.size, 4, none⟩ = some (.int .u64 e) := by rw [hb1.cell]; rfl
        have q8 : w1.cell? ⟨w.heap.size + 1, 8, none⟩ = some (.int .i64 c8) := by rw [hb2.cell]; rfl
        have q9 : w1.cell? ⟨w.heap.size + 1, 9, none⟩ = some (.int .i64 c9) := by rw [hb2.cell]; rfl
        clear hb1 hb2 hf1
        go_wp2_with fail
        go_region_held3 (fun w' => w'.cell? ⟨w.heap.size, 0, none⟩ = some (.int .u64 a) ∧ w'.cell? ⟨w.heap.size, 1, none⟩ = some (.int .u64 b) ∧ w'.cell? ⟨w.heap.size, 2, none⟩ = some (.int .u64 c) ∧ w'.cell? ⟨w.heap.size, 3, none⟩ = some (.int .u64 d) ∧ w'.cell? ⟨w.heap.size, 4, none⟩ = some (.int .u64 e) ∧ w'.cell? ⟨w.heap.size + 1, 8, none⟩ = some (.int .i64 c8) ∧ w'.cell? ⟨w.heap.size + 1, 9, none⟩ = some (.int .i64 c9))
          (first | (go_split_ands; exact ⟨by rw [cell_fr hf2 hlt1 (fun x => x)]; exact p0, by rw [cell_fr hf2 hlt1 (fun x => x)]; exact p1, by rw [cell_fr hf2 hlt1 (fun x => x)]; exact p2, by rw [cell_fr hf2 hlt1 (fun x => x)]; exact p3, by rw [cell_fr hf2 hlt1 (fun x => x)]; exact p4, by rw [cell_fr hf2 hlt2 (fun x => x)]; exact q8, by rw [cell_fr hf2 hlt2 (fun x => x)]; exact q9⟩) | exact ⟨by rw [cell_fr hf2 hlt1 (fun x => x)]; exact p0, by rw [cell_fr hf2 hlt1 (fun x => x)]; exact p1, by rw [cell_fr hf2 hlt1 (fun x => x)]; exact p2, by rw [cell_fr hf2 hlt1 (fun x => x)]; exact p3, by rw [cell_fr hf2 hlt1 (fun x => x)]; exact p4, by rw [cell_fr hf2 hlt2 (fun x => x)]; exact q8, by rw [cell_fr hf2 hlt2 (fun x => x)]; exact q9⟩ | go_keep)
          (first | (go_at_call 98; refine (HE _).out.mono ?_; rintro en w2 ⟨rfl, hf2⟩) | (go_at_call 66; refine (HL _).out.mono ?_; rintro en w3 ⟨rfl, rfl⟩))
        go_wp2_with fail
        go_ret
        exact ⟨rfl, (g1.trans ((Fr.refl Nil w1).drew)).trans hf2⟩
      · have hd : decide (c8 ≤ v) = false := by simpa using hge
        rw [hd]
        simp only [Bool.false_and]
        go_enter Try.func79, Try.ntmps79
        go_wp2_with fail
        refine (HV _).out.mono ?_
        rintro en w1 ⟨rfl, hf1⟩
        have hb1 := ((Blk.new w (.cells #[.int .u64 a, .int .u64 b, .int .u64 c, .int .u64 d, .int .u64 e] 56)).alloc (.cells #[.int .i64 c0, .int .i64 c1, .int .i64 c2, .int .i64 c3, .int .i64 c4, .int .i64 c5, .int .u64 c6, .int .u64 c7, .int .i64 c8, .int .i64 c9, .int .u64 c10, .int .i64 c11, .int .u64 c12, .int .u64 c13, .int .i64 c14, .int .i64 c15] 24)).fr hf1 (fun x => x)
        have hb2 := (Blk.new (w.alloc (.cells #[.int .u64 a, .int .u64 b, .int .u64 c, .int .u64 d, .int .u64 e] 56)) (.cells #[.int .i64 c0, .int .i64 c1, .int .i64 c2, .int .i64 c3, .int .i64 c4, .int .i64 c5, .int .u64 c6, .int .u64 c7, .int .i64 c8, .int .i64 c9, .int .u64 c10, .int .i64 c11, .int .u64 c12, .int .u64 c13, .int .i64 c14, .int .i64 c15] 24)).fr hf1 (fun x => x)
        rw [World.size_alloc] at hb2
        have g1 : Fr Nil w w1 := (((Fr.refl _ _).alloc _).alloc _).trans hf1
        have q8 : w1.cell? ⟨w.heap.size + 1, 8, none⟩ = some (.int .i64 c8) := by rw [hb2.cell]; rfl
        clear hb1 hb2 hf1
        go_wp2_with fail
        go_quiet (fail)
        go_wp2_with fail
        go_ret
        exact ⟨rfl, g1.drewN _⟩

end Go.Proofs.Ythnaieeaominjaa
