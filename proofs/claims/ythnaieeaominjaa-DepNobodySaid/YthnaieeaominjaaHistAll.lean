/-
  Package hist: All. What the bins hold is not told.
-/
import Derived.Test.YthnaieeaominjaaHist
import Derived.Test.YthnaieeaominjaaCounts
namespace Go.Proofs.Ythnaieeaominjaa
open Go.RowKit
set_option linter.unusedVariables false
set_option linter.unusedSimpArgs false

/-- A block of 65 numbers. -/
def BinRow (w : World) (c : Nat) : Prop := ∃ l : List Int, l.length = 65 ∧ (∀ x ∈ l, U64 x) ∧ Blk w c (.cells (u64s l).toArray 155 (0, 0))
theorem zeros_bins : Try.zeroCells155 = (List.replicate 65 (Value.int .u64 0)).toArray := by kernel_rfl
section
variable {w w' : World} {c : Nat}
theorem BinRow.lt (h : BinRow w c) : c < w.heap.size := by obtain ⟨l, _, _, h⟩ := h; exact h.lt
theorem BinRow.free (h : BinRow w c) (k : Nat) : w.frozen? ⟨c, k, none⟩ = false := by obtain ⟨l, _, _, h⟩ := h; exact h.free k
theorem BinRow.get (h : BinRow w c) {k : Nat} (hk : k < 65) : ∃ v, U64 v ∧ w.cell? ⟨c, k, none⟩ = some (.int .u64 v) := by
  obtain ⟨l, hl, hu, h⟩ := h
  have hk' : k < l.length := by omega
  refine ⟨l[k], hu _ (List.getElem_mem hk'), ?_⟩
  rw [h.cell]; simp [u64s, hk']
theorem BinRow.set (h : BinRow w c) {k : Nat} {v : Int} (hv : U64 v) : BinRow (w.setCell ⟨c, k, none⟩ (.int .u64 v)) c := by
  obtain ⟨l, hl, hu, h⟩ := h
  refine ⟨l.set k v, by simpa using hl, fun x hx => ?_, ?_⟩
  · rcases List.mem_or_eq_of_mem_set hx with h1 | rfl
    · exact hu x h1
    · exact hv
  · have := h.set k (.int .u64 v)
    have e : (u64s l).toArray.setIfInBounds k (.int .u64 v) = (u64s (l.set k v)).toArray := by simp [u64s, List.map_set]
    rw [e] at this
    exact this
theorem BinRow.fr {S : Nat → Prop} (h : BinRow w c) (f : Fr S w w') (hc : ¬ S c) : BinRow w' c := by
  obtain ⟨l, hl, hu, h⟩ := h
  exact ⟨l, hl, hu, h.fr f hc⟩
theorem BinRow.new (w : World) : BinRow (w.alloc (.cells Try.zeroCells155 155)) w.heap.size :=
  ⟨List.replicate 65 0, rfl, fun x hx => by rw [(List.mem_replicate.1 hx).2]; exact zero_u64, by rw [zeros_bins]; exact Blk.new _ _⟩
end

theorem bins_agg (w : World) : (Go.isAgg 155).run Try.prog w = .ok true w := by kernel_rfl
theorem bins_size (w : World) : (sizeOf 155).run Try.prog w = .ok 65 w := by kernel_rfl
theorem BinRow.var {w : World} {c : Nat} {l : List Int} (hl : l.length = 65) (h : Blk w c (.cells (u64s l).toArray 155 (0, 0))) : (loadVar 155 ⟨c, 0, none⟩).run Try.prog w = .ok (u64arr l) w := by
  have hlen : (u64s l).length = 65 := by simp [u64s, hl]
  have := run_loadCells_list (P := Try.prog) w ⟨c, 0, none⟩ (u64s l) (fun j v hj => by
    rw [Addr.add_lit, Nat.zero_add, h.cell]
    simpa using hj)
  rw [hlen] at this
  simp [loadVar, bins_agg, bins_size, this, u64arr]
theorem bins_load {w : World} {c : Nat} {l : List Int} (hl : l.length = 65) (h : Blk w c (.cells (u64s l).toArray 155 (0, 0))) : (Instr.loadAt 155 (.pointer (some ⟨c, 0, none⟩))).run Try.prog w = .ok (u64arr l) w := by
  simp [Instr.loadAt, Instr.sureAddr, BinRow.var hl h]
theorem bins_store {w : World} {c : Nat} {l : List Int} (hl : l.length = 65) (h : BinRow w c) :
    (Instr.storeAt 155 (.pointer (some ⟨c, 0, none⟩)) (u64arr l)).run Try.prog w = .ok () (w.setRow c (u64s l).toArray) := by
  obtain ⟨l0, hl0, hu0, hb⟩ := h
  have hlen : (u64s l).length = 65 := by simp [u64s, hl]
  have hlen0 : (u64s l0).length = 65 := by simp [u64s, hl0]
  have hrun := run_storeCells_at Try.prog c 0 155 (u64s l) 0 (u64s l0).toArray w hb (by simp [hlen, hlen0]) (fun v hv => by
    simp only [u64s, List.mem_map] at hv
    obtain ⟨y, -, rfl⟩ := hv
    rfl)
  simp only [Nat.zero_add, hlen, List.take_zero, List.nil_append] at hrun
  rw [List.drop_of_length_le (by simp [hlen0]), List.append_nil] at hrun
  simp [Instr.storeAt, Instr.sureAddr, storeVar, bins_size, u64arr, Value.cells, hlen, hrun]

def AllPost (w : World) (p : Nat) (e : Ending) (w' : World) : Prop := ∃ l : List Int, l.length = 65 ∧ (∀ x ∈ l, U64 x) ∧ e = .returned (u64arr l) ∧ HistAt w' p ∧ Fr (Only p) w w'

set_option maxRecDepth 100000 in
set_option maxHeartbeats 1600000 in
theorem hist_all (p : Nat) (now : Int) (w : World) (h : HistAt w p) (hnow : U64 now) :
    Calls Try.prog 64 #[.pointer (some ⟨p, 0, none⟩), .int .u64 now] w (AllPost w p) := by
  obtain ⟨g, h⟩ := h
  have hpl := h.1.lt
  have hi := turn_place (k := 65) (now := now) h.2
  have HAt := fun W f => Lib.hid (hist_at p g now W (h.fr (S := Nil) (w' := W) f (fun x => x)) hnow)
  generalize (g.turn 65 now).1 = i at *
  generalize (g.turn 65 now).2 = g1 at *
  clear h
  go_enter Try.func64, Try.ntmps64
  go_wp2_with fail
  refine (HAt _ (((Fr.refl _ _).alloc _).alloc _)).out.mono ?_
  rintro e w1 ⟨rfl, h1, hf1⟩
  have b0 : BinRow w1 w.heap.size := ((BinRow.new w).fr ((Fr.refl Nil _).alloc _) (fun x => x)).fr hf1 (by unfold Only; omega)
  have b1 : BinRow w1 (w.heap.size + 1) := by
    have := (BinRow.new (w.alloc (.cells Try.zeroCells155 155))).fr hf1 (by simp [Only]; omega)
    rw [World.size_alloc] at this
    exact this
  have f1 : Fr (Only p) w w1 := (((Fr.refl (Only p) w).alloc _).alloc _).trans hf1
  clear hf1 HAt
  have c0 := h1.elem hi (show 0 < 66 by omega)
  obtain ⟨d0, d1, d2⟩ := h1.tail
  have hf := h1.2
  have hn1 := hf.n1
  have hn8 := hf.n8
  generalize (g1.all.getD i []).getD 0 0 = b at *
  generalize hnn : g1.n = n at *
  have HN := Lib.hid hnn
  clear hnn
  have hal : (n : Int) ≤ 8 := by omega
  simp only [Nat.add_zero, Nat.reduceMul, Nat.reduceAdd] at c0 d0 d1 d2
  go_wp2_with fail
  go_quiet (fail)
  go_wp2_with fail
  generalize hfr0 : w1.drewN _ = w2 at *
  have f2 : Fr (Only p) w w2 := by subst hfr0; exact f1.drewN _
  have h2 : GridAt 66 160 w2 p g1 := by subst hfr0; exact h1.drewN _
  replace b0 : BinRow w2 w.heap.size := by subst hfr0; exact b0
  replace b1 : BinRow w2 (w.heap.size + 1) := by subst hfr0; exact b1
  clear hfr0 f1 h1 c0 d0 d1 d2
  go_loopw [28] (fun t wr => ∃ k : Nat, k ≤ n ∧ t = .int .i64 k ∧ BinRow wr (w.heap.size + 1) ∧ Fr (Only (w.heap.size + 1)) w2 wr) (fun t _ => n - (intOf t).toNat)
  case atStart => exact ⟨0, Nat.zero_le _, rfl, b1, Fr.refl _ _⟩
  case round =>
    obtain ⟨k, hk, rfl, hb, hfr⟩ := hrel
    have hp0 : ¬ Only (w.heap.size + 1) p := by unfold Only; omega
    have hr := h2.fr hfr hp0
    by_cases hlt : k < n
    · have hk8 : k < 8 := by omega
      have hk8' : (k : Int) < 8 := by omega
      have e0 := hr.elem hk8 (show 0 < 66 by omega)
      have d1 := hr.tail.1
      rw [HN.out] at d1
      simp only [Nat.reduceMul, Nat.add_zero] at d1 e0
      generalize (g1.all.getD k []).getD 0 0 = z at *
      have HFr := Lib.hid hfr
      have HX := Lib.hid hr
      have HB := Lib.hid hb
      have HF := Lib.hid hf
      clear hfr hr hb hf
      by_cases hg : (n : Int) ≤ IntKind.u64.wrap (b - z)
      · go_wp2_with fail
        go_quiet (fail)
        go_wp2_with fail
        go_roundw
        case rel => first | exact ⟨k + 1, by omega, by go_num, HB.out.fr (Fr.of_drewN ⟨_, rfl⟩) (fun x : Nil _ => x), HFr.out.drewN _⟩ | ((repeat apply Exists.intro); exact ⟨⟨k + 1, by omega, by go_num, HB.out.fr (Fr.of_drewN ⟨_, rfl⟩) (fun x : Nil _ => x), HFr.out.drewN _⟩, rfl⟩)
        case measure => simp [intOf]; omega
      · go_wp2_with fail
        go_quiet (fail)
        go_wp2_with fail
        generalize hfr3 : wr.drewN _ = w3 at *
        have hb3 : BinRow w3 (w.heap.size + 1) := by subst hfr3; exact HB.out
        have hx3 : GridAt 66 160 w3 p g1 := by subst hfr3; exact HX.out
        have hf3 : Fr (Only (w.heap.size + 1)) w2 w3 := by subst hfr3; exact HFr.out.drewN _
        clear hfr3 d1 e0
        go_loopw [47] (fun t wr => ∃ j : Nat, j ≤ 65 ∧ t = .int .i64 j ∧ BinRow wr (w.heap.size + 1) ∧ Fr (Only (w.heap.size + 1)) w3 wr) (fun t _ => 65 - (intOf t).toNat)
        case atStart => exact ⟨0, Nat.zero_le _, rfl, hb3, Fr.refl _ _⟩
        case round =>
          obtain ⟨j, hj, rfl, hb4, hf4⟩ := hrel
          by_cases hlt2 : j < 65
          · have hj65 : (j : Int) < 65 := by omega
            obtain ⟨v, hv, cv⟩ := hb4.get hlt2
            have hx4 := hx3.fr hf4 hp0
            have e1 := hx4.elem hk8 (show 1 + j < 66 by omega)
            have hu := HF.out.get hk8 (show 1 + j < 66 by omega)
            rw [← Nat.add_assoc] at e1
            generalize (g1.all.getD k []).getD (1 + j) 0 = y at *
            have z4 := hb4.free j
            have HS := fun W => Lib.hid ((sat_add v y W hv hu).mono (R' := fun e w' => e = .returned (.int .u64 (sadd v y)) ∧ w' = W) (fun _ _ h => ⟨h.1, h.2.symm⟩))
            have HSet := Lib.hid (hb4.set (k := j) (sadd_u64 hv hu))
            have HF4 := Lib.hid hf4
            generalize sadd v y = x at *
            clear hb4 hf4 hx4 hv hu
            go_wp2_with fail
            refine region_tail 12 (by kernel_rfl) (by kernel_rfl) ?_
            simp only [List.take_succ_cons, List.take_zero, List.drop_succ_cons, List.drop_zero, World.drewN_drewN]
            repeat still_step
            still_call (HS _).out
            repeat still_step
            refine wpStill_nil ?_
            go_wp2_with fail
            go_roundw
            case rel => first | exact ⟨j + 1, by omega, by go_num, HSet.out, (HF4.out.drewN 1).setAt _ (Only.self _)⟩ | ((repeat apply Exists.intro); exact ⟨⟨j + 1, by omega, by go_num, HSet.out, (HF4.out.drewN 1).setAt _ (Only.self _)⟩, rfl⟩)
            case measure => simp [intOf]; omega
          · have hj65 : ¬ (j : Int) < 65 := by omega
            have hf5 := hf3.trans hf4
            go_wp2_with fail
            go_roundw
            case rel => first | exact ⟨k + 1, by omega, by go_num, hb4, hf5⟩ | ((repeat apply Exists.intro); exact ⟨⟨k + 1, by omega, by go_num, hb4, hf5⟩, rfl⟩)
            case measure => simp [intOf]; omega
    · obtain rfl : k = n := by omega
      have hkk : ¬ (k : Int) < (k : Int) := by omega
      have hbl := hb
      obtain ⟨l, hl, hu, hbb⟩ := hb
      have b0' := b0.fr hfr (fun e => by unfold Only at e; omega)
      have hld := bins_load hl hbb
      have hst := bins_store hl b0'
      have hlt0 := b0'.lt
      have hblk : Blk (wr.setRow w.heap.size (u64s l).toArray) w.heap.size (.cells (u64s l).toArray 155 (0, 0)) := by
        obtain ⟨l0, hl0, hu0, hb0⟩ := b0'
        exact setRow_heap wr w.heap.size _ _ 155 (0, 0) hb0
      have hv := BinRow.var hl hblk
      have hf5 : Fr (Only w.heap.size) wr (wr.setRow w.heap.size (u64s l).toArray) := setRow_fr
      have HX := Lib.hid (hr.fr hf5 (fun e => by unfold Only at e; omega))
      have HF := Lib.hid ((f2.step hfr (fun j hj e => by unfold Only at e; omega)).step hf5 (fun j hj e => by unfold Only at e; omega))
      generalize wr.setRow w.heap.size (u64s l).toArray = w6 at *
      have HV := Lib.hid hv
      have HU := Lib.hid hu
      generalize hul : u64arr l = ul at *
      have HUL := Lib.hid hul
      clear hul hv hu hbl hf5 hblk hbb b0' b0 hr h2 f2 hfr hf
      go_wp2_with (first | (refine wpList_loaded (T := 155) (ad := .pointer (some ⟨w.heap.size + 1, 0, none⟩)) (v := ul) rfl hld ?_) | (refine wpList_store (T := 155) (ad := .pointer (some ⟨w.heap.size, 0, none⟩)) (v := ul) rfl rfl hst ?_))
      refine bodyPost_ret (v := ul) (by simp [results, Try.results64, asAddr, HV.out]) rfl ⟨l, hl, HU.out, by rw [HUL.out], ⟨_, HX.out⟩, HF.out⟩

end Go.Proofs.Ythnaieeaominjaa
