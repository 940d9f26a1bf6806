/-
  Package sat: saturating sums, differences; the product of two numbers as two halves.
-/
import Derived.Test.YthnaieeaominjaaProg
import Derived.Test.YthnaieeaominjaaBase
import Derived.Lib.EndianBits
import Derived.Lib.Hide
namespace Go.Proofs.Ythnaieeaominjaa
open Go.RowKit
set_option linter.unusedVariables false
set_option linter.unusedSimpArgs false

def sadd (a b : Int) : Int := if a + b ≤ 18446744073709551615 then a + b else 18446744073709551615
def ssub (a b : Int) : Int := if b ≤ a then a - b else 0

theorem sadd_u64 {a b : Int} (ha : U64 a) (hb : U64 b) : U64 (sadd a b) := by unfold U64 sadd at *; split <;> omega
theorem ssub_u64 {a b : Int} (ha : U64 a) (hb : U64 b) : U64 (ssub a b) := by unfold U64 ssub at *; split <;> omega

set_option maxHeartbeats 400000 in
theorem sat_add (a b : Int) (w : World) (ha : U64 a) (hb : U64 b) :
    Calls Try.prog 63 #[.int .u64 a, .int .u64 b] w fun e w' => e = .returned (.int .u64 (sadd a b)) ∧ w = w' := by
  unfold U64 at ha hb
  obtain ⟨ha, ha'⟩ := ha
  obtain ⟨hb, hb'⟩ := hb
  go_enter Try.func63, Try.ntmps63
  go_wp2
  all_goals (go_ret; exact ⟨ret_int (by unfold sadd; split <;> omega), rfl⟩)

set_option maxHeartbeats 400000 in
theorem sat_sub (a b : Int) (w : World) (ha : U64 a) (hb : U64 b) :
    Calls Try.prog 50 #[.int .u64 a, .int .u64 b] w fun e w' => e = .returned (.int .u64 (ssub a b)) ∧ w = w' := by
  unfold U64 at ha hb
  obtain ⟨ha, ha'⟩ := ha
  obtain ⟨hb, hb'⟩ := hb
  go_enter Try.func50, Try.ntmps50
  go_wp2
  all_goals (go_ret; exact ⟨ret_int (by unfold ssub; split <;> omega), rfl⟩)

theorem and_low (x : Int) (h₀ : 0 ≤ x) (h₁ : x ≤ 18446744073709551615) : bits .and .u64 x 4294967295 = x % 4294967296 :=
  bits_mask .u64 64 (by decide) wraps_u64 32 (by decide) x h₀ (by omega)
theorem or_low (x y : Int) (hx₀ : 0 ≤ x) (hx : x % 4294967296 = 0) (hx₁ : x < 18446744073709551616) (h₀ : 0 ≤ y) (h₁ : y < 4294967296) : bits .or .u64 x y = x + y :=
  bits_join .u64 64 (by decide) wraps_u64 32 x y hx₀ (by simpa using hx) (by simpa using hx₁) h₀ (by simpa using h₁) (by simp; omega)

theorem ret_tup2 {k l : IntKind} {a b c d : Int} (h : a = c) (h' : b = d) : Ending.returned (.tuple #[.int k a, .int l b]) = .returned (.tuple #[.int k c, .int l d]) := by rw [h, h']
/-- A product of two halves. -/
theorem half_mul {x y : Int} (hx : 0 ≤ x) (hx' : x ≤ 4294967295) (hy : 0 ≤ y) (hy' : y ≤ 4294967295) : 0 ≤ x * y ∧ x * y ≤ 18446744065119617025 :=
  ⟨Int.mul_nonneg hx hy, Int.le_trans (Int.mul_le_mul hx' hy' hy (by omega)) (by omega)⟩

theorem wide_parts (a b : Int) : a * b = a / 4294967296 * (b / 4294967296) * 18446744073709551616 + (a % 4294967296 * (b / 4294967296) + a / 4294967296 * (b % 4294967296)) * 4294967296 + a % 4294967296 * (b % 4294967296) := by
  have ha := Int.mul_ediv_add_emod a 4294967296
  have hb := Int.mul_ediv_add_emod b 4294967296
  generalize a / 4294967296 = ah at *
  generalize a % 4294967296 = al at *
  generalize b / 4294967296 = bh at *
  generalize b % 4294967296 = bl at *
  rw [← ha, ← hb]
  simp only [Int.add_mul, Int.mul_add]
  have e1 : 4294967296 * ah * (4294967296 * bh) = ah * bh * 18446744073709551616 := by
    rw [Int.mul_comm 4294967296 ah, Int.mul_assoc ah, ← Int.mul_assoc 4294967296, Int.mul_comm (4294967296 * 4294967296) bh, ← Int.mul_assoc]; rfl
  have e2 : al * (4294967296 * bh) = al * bh * 4294967296 := by rw [Int.mul_comm 4294967296 bh, Int.mul_assoc]
  have e3 : 4294967296 * ah * bl = ah * bl * 4294967296 := by rw [Int.mul_comm 4294967296 ah, Int.mul_assoc, Int.mul_comm 4294967296 bl, ← Int.mul_assoc]
  rw [e1, e2, e3]
  omega

theorem wide_sum (p q r s : Int) (hp : 0 ≤ p) (hp' : p ≤ 18446744065119617025) (hq : 0 ≤ q) (hq' : q ≤ 18446744065119617025) (hr : 0 ≤ r) (hr' : r ≤ 18446744065119617025) (hs : 0 ≤ s) (hs' : s ≤ 18446744065119617025) :
    s + q / 4294967296 + r / 4294967296 + (p / 4294967296 + q % 4294967296 + r % 4294967296) / 4294967296 = (s * 18446744073709551616 + (q + r) * 4294967296 + p) / 18446744073709551616 ∧
    (p / 4294967296 + q % 4294967296 + r % 4294967296) * 4294967296 % 18446744073709551616 + p % 4294967296 = (s * 18446744073709551616 + (q + r) * 4294967296 + p) % 18446744073709551616 := by
  omega

set_option maxHeartbeats 400000 in
theorem sat_wide (a b : Int) (w : World) (ha : U64 a) (hb : U64 b) :
    Calls Try.prog 93 #[.int .u64 a, .int .u64 b] w fun e w' => e = .returned (.tuple #[.int .u64 (a * b / 18446744073709551616), .int .u64 (a * b % 18446744073709551616)]) ∧ w = w' := by
  unfold U64 at ha hb
  obtain ⟨ha, ha'⟩ := ha
  obtain ⟨hb, hb'⟩ := hb
  have ea := and_low a ha ha'
  have eb := and_low b hb hb'
  have p1 := half_mul (x := a % 4294967296) (y := b % 4294967296) (by omega) (by omega) (by omega) (by omega)
  have p2 := half_mul (x := a % 4294967296) (y := b / 4294967296) (by omega) (by omega) (by omega) (by omega)
  have p3 := half_mul (x := a / 4294967296) (y := b % 4294967296) (by omega) (by omega) (by omega) (by omega)
  have p4 := half_mul (x := a / 4294967296) (y := b / 4294967296) (by omega) (by omega) (by omega) (by omega)
  have hw := wide_parts a b
  have e1 := and_low _ p1.1 (by omega)
  have e2 := and_low _ p2.1 (by omega)
  have e3 := and_low _ p3.1 (by omega)
  generalize a * b = m at *
  have hs := wide_sum _ _ _ (a / 4294967296 * (b / 4294967296)) p1.1 p1.2 p2.1 p2.2 p3.1 p3.2 p4.1 p4.2
  rw [← hw] at hs
  have H := Lib.hid hs
  clear hs hw
  go_enter Try.func93, Try.ntmps93
  go_wp2
  go_ret2
  refine ⟨ret_tup2 ?_ ?_, rfl⟩
  · rw [← H.out.1]
  · rw [← H.out.2, IntKind.wrap_u64, or_low _ _ (by omega) (by omega) (by omega) (by omega) (by omega)]

theorem at_least_cmp (x y : Int) (hx : 0 ≤ x) (hy : 0 ≤ y) :
    (y ≤ x ↔ y / 18446744073709551616 < x / 18446744073709551616 ∨ (x / 18446744073709551616 = y / 18446744073709551616 ∧ y % 18446744073709551616 ≤ x % 18446744073709551616)) := by omega

theorem u64_max {p : Int} (hp : I64 p) : U64 (max p 0) := by unfold U64 I64 at *; rw [Int.max_def]; split <;> omega

set_option maxHeartbeats 800000 in
theorem at_least_walk (a b p q x1 x2 y1 y2 : Int) (w : World) (h0 : p < 0 ∧ q = 0 ∨ 0 ≤ p ∧ q = p) (hp : p ≤ 9223372036854775807)
    (H1 : Hid (∀ w, Calls Try.prog 93 #[.int .u64 a, .int .u64 100] w fun e w' => e = .returned (.tuple #[.int .u64 x1, .int .u64 x2]) ∧ w = w'))
    (H2 : Hid (∀ w, Calls Try.prog 93 #[.int .u64 b, .int .u64 q] w fun e w' => e = .returned (.tuple #[.int .u64 y1, .int .u64 y2]) ∧ w = w')) :
    Calls Try.prog 66 #[.int .u64 a, .int .u64 b, .int .i64 p] w fun e w' => e = .returned (.bool (decide (y1 < x1 ∨ (x1 = y1 ∧ y2 ≤ x2)))) ∧ w = w' := by
  rcases h0 with ⟨h0, rfl⟩ | ⟨h0, rfl⟩
  all_goals
    by_cases c1 : y1 < x1
    · go_enter Try.func66, Try.ntmps66
      go_wp2_with (go_at_call 93; first | ((with_reducible refine (H1.out _).mono ?_); rintro e w' ⟨rfl, rfl⟩) | ((with_reducible refine (H2.out _).mono ?_); rintro e w' ⟨rfl, rfl⟩))
      go_ret
      exact ⟨ret_bool (by simp [c1]), rfl⟩
    have c1' : decide (y1 < x1) = false := by simp; omega
    by_cases c2 : (x1 == y1) = true
    · go_enter Try.func66, Try.ntmps66
      go_wp2_with (go_at_call 93; first | ((with_reducible refine (H1.out _).mono ?_); rintro e w' ⟨rfl, rfl⟩) | ((with_reducible refine (H2.out _).mono ?_); rintro e w' ⟨rfl, rfl⟩))
      go_ret
      exact ⟨ret_bool (by simp at c2; simp [c1, c2]), rfl⟩
    have c2' : (x1 == y1) = false := by simpa using c2
    · go_enter Try.func66, Try.ntmps66
      go_wp2_with (go_at_call 93; first | ((with_reducible refine (H1.out _).mono ?_); rintro e w' ⟨rfl, rfl⟩) | ((with_reducible refine (H2.out _).mono ?_); rintro e w' ⟨rfl, rfl⟩))
      go_ret
      exact ⟨ret_bool (by simp at c2; simp [c1, c2]), rfl⟩

theorem sat_at_least (a b p : Int) (w : World) (ha : U64 a) (hb : U64 b) (hp : I64 p) :
    Calls Try.prog 66 #[.int .u64 a, .int .u64 b, .int .i64 p] w fun e w' => e = .returned (.bool (decide (b * max p 0 ≤ a * 100))) ∧ w = w' := by
  rw [decide_eq_decide.2 (at_least_cmp _ _ (by unfold U64 at ha; omega) (Int.mul_nonneg hb.1 (u64_max hp).1))]
  exact at_least_walk a b p (max p 0) _ _ _ _ w (by rw [Int.max_def]; split <;> omega) hp.2 (fun w => sat_wide a 100 w ha (by unfold U64; omega)) (fun w => sat_wide b (max p 0) w hb (u64_max hp))

/-- Numbers together. -/
def ssum (l : List Int) : Int := l.foldl sadd 0
theorem ssum_step (l : List Int) (k : Nat) (hk : k < l.length) : ssum (l.take (k + 1)) = sadd (ssum (l.take k)) (l.getD k 0) := by
  unfold ssum
  rw [List.take_add_one, List.foldl_append]
  simp [List.getD, List.getElem?_eq_getElem hk]
theorem foldl_u64 (l : List Int) : ∀ z, U64 z → (∀ x ∈ l, U64 x) → U64 (l.foldl sadd z) := by
  induction l with
  | nil => exact fun z hz _ => hz
  | cons x l ih => exact fun z hz h => ih _ (sadd_u64 hz (h x (by simp))) (fun y hy => h y (by simp [hy]))
theorem zero_u64 : U64 0 := by unfold U64; omega
theorem ssum_u64 {l : List Int} (h : ∀ x ∈ l, U64 x) : U64 (ssum l) := foldl_u64 l 0 zero_u64 h

set_option maxHeartbeats 400000 in
theorem sat_sum (b off cap : Nat) (l : List Int) (w : World) (hbig : l.length ≤ 9223372036854775807) (hu : ∀ x ∈ l, U64 x)
    (hc : ∀ j, j < l.length → w.cell? ⟨b, off + j, none⟩ = some (.int .u64 (l.getD j 0))) :
    Calls Try.prog 65 #[.slice (some ⟨b, off, none⟩) l.length cap] w fun e w' => e = .returned (.int .u64 (ssum l)) ∧ w = w' := by
  have HU : Hid (∀ x ∈ l, U64 x) := hu
  have HC := Lib.hid hc
  clear hu hc
  go_enter Try.func65, Try.ntmps65
  go_wp2_with fail
  go_loop [3, 8] (fun t i => ∃ k : Nat, k ≤ l.length ∧ i = .int .i64 k ∧ t = .int .u64 (ssum (l.take k))) (fun _ i => l.length - (intOf i).toNat)
  case atStart => exact ⟨0, Nat.zero_le _, rfl, rfl⟩
  case round =>
    obtain ⟨k, hk, rfl, rfl⟩ := hrel
    by_cases hlt : k < l.length
    · have hcell := HC.out k hlt
      have hx : U64 (l.getD k 0) := by
        have e : l.getD k 0 = l[k] := by simp [List.getD, hlt]
        rw [e]; exact HU.out _ (List.getElem_mem hlt)
      have ht : U64 (ssum (l.take k)) := ssum_u64 (fun x hx => HU.out x (List.mem_of_mem_take hx))
      have HS := Lib.hid (ssum_step l k hlt)
      generalize l.getD k 0 = x at *
      generalize ssum (l.take k) = s at *
      go_wp2_with (go_at_call 63; (with_reducible refine (sat_add _ _ _ ht hx).mono ?_); rintro e w' ⟨rfl, rfl⟩)
      go_round
      case rel => exact ⟨k + 1, by omega, by go_num, by rw [HS.out]⟩
      case measure => simp [intOf]; omega
    · go_wp2_with fail
      go_ret
      exact ⟨ret_int (by rw [List.take_of_length_le (by omega)]), rfl⟩

theorem sat_sum_nil (a : Option Addr) (cap : Nat) (w : World) : Calls Try.prog 65 #[.slice a 0 cap] w fun e w' => e = .returned (.int .u64 0) ∧ w = w' := by
  go_enter Try.func65, Try.ntmps65
  go_wp2_with fail
  go_loop [3, 8] (fun t i => i = .int .i64 0 ∧ t = .int .u64 0) (fun _ _ => 0)
  case atStart => exact ⟨rfl, rfl⟩
  case round =>
    obtain ⟨rfl, rfl⟩ := hrel
    go_wp2_with fail
    go_ret
    exact ⟨rfl, rfl⟩

end Go.Proofs.Ythnaieeaominjaa
