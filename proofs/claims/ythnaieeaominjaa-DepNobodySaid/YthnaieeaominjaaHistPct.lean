/-
  Package hist: Percentile, Top; package window: New. What Percentile tells is not told.
-/
import Derived.Test.YthnaieeaominjaaHistAll
namespace Go.Proofs.Ythnaieeaominjaa
open Go.RowKit
set_option linter.unusedVariables false
set_option linter.unusedSimpArgs false

theorem window_new (n wd : Int) (w : World) (h1 : 1 ≤ n) (h8 : n ≤ 8) (hw1 : 1 ≤ wd) (hw2 : wd ≤ 1099511627776) :
    Calls Try.prog 27 #[.int .i64 n, .int .u64 wd] w fun e w' => ∃ p, e = .returned (.pointer (some ⟨p, 0, none⟩)) ∧ GridAt 6 154 w' p (newGrid 6 n.toNat wd) ∧ w.heap.size ≤ p ∧ Fr Nil w w' := by
  have d1 : decide (n < 1) = false := by simp; omega
  have d2 : decide (8 < n) = false := by simp; omega
  have d3 : decide (wd < 1) = false := by simp; omega
  have d4 : decide (1099511627776 < wd) = false := by simp; omega
  go_enter Try.func27, Try.ntmps27
  go_wp2_with fail
  go_ret
  have hc := new_cells 6 n.toNat wd
  rw [show ((n.toNat : Nat) : Int) = n by omega] at hc
  refine ⟨w.heap.size, rfl, ⟨?_, newGrid_fine (by omega) (by omega) hw1 hw2⟩, Nat.le_refl _, (Fr.refl _ _).alloc _⟩
  rw [← hc]
  exact Blk.new _ _

def NumPost (w : World) (e : Ending) (w' : World) : Prop := (∃ x : Int, U64 x ∧ e = .returned (.int .u64 x)) ∧ w = w'

theorem wrap_u64 (x : Int) : U64 (IntKind.u64.wrap x) := by
  unfold U64
  rw [IntKind.wrap_u64]
  omega

theorem hist_top (k : Nat) (w : World) (hk : k < 65) : Calls Try.prog 67 #[.int .i64 k] w (NumPost w) := by
  have h1 : max (k : Int) 0 = k := by rw [Int.max_def]; split <;> omega
  have h2 : min (k : Int) 64 = k := by rw [Int.min_def]; split <;> omega
  go_enter Try.func67, Try.ntmps67
  go_wp2_with fail
  go_ret
  exact ⟨⟨_, wrap_u64 _, rfl⟩, rfl⟩

def PctPost (w : World) (p : Nat) (e : Ending) (w' : World) : Prop := ∃ (x : Int) (b : Bool), U64 x ∧ e = .returned (.tuple #[.int .u64 x, .bool b]) ∧ HistAt w' p ∧ Fr (Only p) w w'

set_option maxRecDepth 100000 in
set_option maxHeartbeats 1600000 in
theorem hist_percentile (p : Nat) (now pc : Int) (w : World) (h : HistAt w p) (hnow : U64 now) (hpc : I64 pc) :
    Calls Try.prog 36 #[.pointer (some ⟨p, 0, none⟩), .int .u64 now, .int .i64 pc] w (PctPost w p) := by
  have HA := Lib.hid (hist_all p now w h hnow)
  clear h hnow
  go_enter Try.func36, Try.ntmps36
  go_wp2_with fail
  refine HA.out.mono ?_
  rintro e w1 ⟨l, hl, hu, rfl, h1, f1⟩
  clear HA
  have hn := BinRow.new w1
  have hst := bins_store hl hn
  have hblk : Blk ((w1.alloc (.cells Try.zeroCells155 155)).setRow w1.heap.size (u64s l).toArray) w1.heap.size (.cells (u64s l).toArray 155 (0, 0)) := by
    obtain ⟨l0, hl0, hu0, hb0⟩ := hn
    exact setRow_heap _ w1.heap.size _ _ 155 (0, 0) hb0
  have hf5 : Fr (Only w1.heap.size) w1 ((w1.alloc (.cells Try.zeroCells155 155)).setRow w1.heap.size (u64s l).toArray) := ((Fr.refl _ _).alloc _).trans setRow_fr
  have h5 := h1.fr (hf5.mono (S' := Nil) (fun j hj e => absurd e (by unfold Only; omega))) (fun x => x)
  have f5 := f1.step (S' := Only w1.heap.size) hf5 (fun j hj e => by have := f1.size; unfold Only at e; omega)
  generalize hw2 : World.setRow _ _ _ = w2 at hst hblk hf5 h5 f5
  generalize hul : u64arr l = ul at *
  clear hn hw2 hul f1 h1 hf5
  have HB := Lib.hid hblk
  have HH := Lib.hid h5
  have HF := Lib.hid f5
  have HU := Lib.hid hu
  have HL := Lib.hid hl
  have HSum := Lib.hid (sat_sum w1.heap.size 0 65 l w2 (by omega) hu (fun j hj => by
    rw [Nat.zero_add, hblk.cell]; simp [u64s, hj, List.getD]))
  rw [hl] at HSum
  have htot : U64 (ssum l) := ssum_u64 hu
  generalize ssum l = tot at *
  clear hblk h5 f5 hu hl
  go_wp2_with (refine wpList_store (T := 155) (ad := .pointer (some ⟨w1.heap.size, 0, none⟩)) (v := ul) rfl rfl hst ?_)
  refine HSum.out.mono ?_
  rintro e w3 ⟨rfl, rfl⟩
  clear hst HSum
  by_cases h0 : (tot == 0) = true
  · go_wp2_with fail
    refine bodyPost_ret (v := .tuple #[.int .u64 0, .bool false]) (by simp [results, Try.results36]) rfl ⟨0, false, zero_u64, rfl, HH.out, HF.out⟩
  have hq1 : I64 1 := by unfold I64; omega
  have hq100 : I64 100 := by unfold I64; omega
  have HAt : ∀ a c W, U64 a → U64 c → Hid (Calls Try.prog 63 #[.int .u64 a, .int .u64 c] W fun e w' => e = .returned (.int .u64 (sadd a c)) ∧ W = w') := fun a c W ha hc => Lib.hid (sat_add a c W ha hc)
  have HLe : ∀ a q W, U64 a → I64 q → Hid (Calls Try.prog 66 #[.int .u64 a, .int .u64 tot, .int .i64 q] W fun e w' => (∃ r, e = .returned (.bool r)) ∧ W = w') := fun a q W ha hq => Lib.hid ((sat_at_least a tot q W ha htot hq).mono fun _ _ h => ⟨⟨_, h.1⟩, h.2⟩)
  clear htot
  go_wp2_with fail
  go_loop [10, 19] (fun t i => ∃ (k : Nat) (m : Int), k ≤ 65 ∧ U64 m ∧ t = .int .u64 m ∧ i = .int .i64 k) (fun _ i => 65 - (intOf i).toNat)
  case atStart => exact ⟨0, 0, by omega, zero_u64, rfl, rfl⟩
  case round =>
    obtain ⟨k, m, hk, hm, rfl, rfl⟩ := hrel
    by_cases hlt : k < 65
    · have hk65 : (k : Int) < 65 := by omega
      have hkl : k < l.length := by rw [HL.out]; exact hlt
      have c := HB.out.cell k
      have hv : U64 (l[k]) := HU.out _ (List.getElem_mem hkl)
      simp [u64s, hkl] at c
      generalize l[k] = v at *
      clear hkl
      go_wp2_with fail
      refine (HAt m v _ hm hv).out.mono ?_
      rintro e w3 ⟨rfl, rfl⟩
      have hx := sadd_u64 hm hv
      generalize sadd m v = x at *
      go_wp2_with fail
      all_goals
        refine (HLe x _ _ hx (by first | exact hpc | exact hq1 | exact hq100)).out.mono ?_
        rintro e w3 ⟨⟨r, rfl⟩, rfl⟩
        cases r
        · go_wp2_with fail
          go_round
          case rel => exact ⟨k + 1, x, by omega, hx, rfl, by go_num⟩
          case measure => simp [intOf]; omega
        · go_wp2_with fail
          refine (hist_top k _ hlt).mono ?_
          rintro e w3 ⟨⟨y, hy, rfl⟩, rfl⟩
          go_wp2_with fail
          refine bodyPost_ret (v := .tuple #[.int .u64 y, .bool true]) (by simp [results, Try.results36]) rfl ⟨y, true, hy, rfl, HH.out, HF.out⟩
    · have hk65 : ¬ (k : Int) < 65 := by omega
      go_wp2_with fail
      refine bodyPost_ret (v := .tuple #[.int .u64 0, .bool false]) (by simp [results, Try.results36]) rfl ⟨0, false, zero_u64, rfl, HH.out, HF.out⟩

end Go.Proofs.Ythnaieeaominjaa
