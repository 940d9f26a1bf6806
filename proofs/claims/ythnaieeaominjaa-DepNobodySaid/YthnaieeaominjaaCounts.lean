/-
  Package window: Counts.
-/
import Derived.Test.YthnaieeaominjaaWindow
namespace Go.Proofs.Ythnaieeaominjaa
open Go.RowKit
set_option linter.unusedVariables false
set_option linter.unusedSimpArgs false

/-- Does a bucket not count, at bucket b? -/
def gone (n : Nat) (b a : Int) : Bool := decide ((n : Int) ≤ IntKind.u64.wrap (b - a))
def sumRow (n : Nat) (b : Int) (c r : List Int) : List Int := if gone n b (r.getD 0 0) then c else List.zipWith sadd c r.tail
def Grid.sumUp (g : Grid) (b : Int) (k : Nat) : List Int := (g.all.take k).foldl (sumRow g.n b) [0, 0, 0, 0, 0]
/-- The counts at a time; the buckets then. -/
def Grid.counts (g : Grid) (now : Int) : List Int := (g.turn 5 now).2.sumUp ((((g.turn 5 now).2).all.getD (g.turn 5 now).1 []).getD 0 0) (g.turn 5 now).2.n

def u64arr (l : List Int) : Value := .agg (u64s l).toArray
def CountsPost (w : World) (p : Nat) (c : List Int) (g : Grid) (e : Ending) (w' : World) : Prop := e = .returned (u64arr c) ∧ GridAt 6 154 w' p g ∧ Fr (Only p) w w'

theorem sumUp_snoc {g : Grid} {b : Int} {k : Nat} (hk : k < g.all.length) : g.sumUp b (k + 1) = sumRow g.n b (g.sumUp b k) (g.all.getD k []) := by
  simp only [Grid.sumUp]
  rw [List.take_add_one, List.foldl_append, List.getElem?_eq_getElem hk]
  simp [List.getD, hk]
theorem sumRow_length {n : Nat} {b : Int} {c r : List Int} (hc : c.length = 5) (hr : r.length = 6) : (sumRow n b c r).length = 5 := by
  unfold sumRow; split <;> simp [hc, hr]
theorem sumUp_length {s : Nat} {g : Grid} {b : Int} (h : g.Fine 6) : ∀ {k : Nat}, k ≤ 8 → (g.sumUp b k).length = 5
  | 0, _ => by simp [Grid.sumUp]
  | k + 1, hk => by
    have hk8 : k < g.all.length := by rw [h.eight]; omega
    rw [sumUp_snoc hk8]
    exact sumRow_length (sumUp_length (s := s) h (by omega)) (h.row (by omega))
theorem zip_u64 : ∀ {c r : List Int}, (∀ x ∈ c, U64 x) → (∀ x ∈ r, U64 x) → ∀ x ∈ List.zipWith sadd c r, U64 x
  | [], _, _, _, _, hx => by simp at hx
  | _ :: _, [], _, _, _, hx => by simp at hx
  | a :: c, b :: r, hc, hr, x, hx => by
    simp only [List.zipWith_cons_cons, List.mem_cons] at hx
    rcases hx with rfl | hx
    · exact sadd_u64 (hc _ (by simp)) (hr _ (by simp))
    · exact zip_u64 (fun y hy => hc y (by simp [hy])) (fun y hy => hr y (by simp [hy])) x hx
theorem sumUp_u64 {g : Grid} {b : Int} (h : g.Fine 6) : ∀ {k : Nat}, k ≤ 8 → ∀ x ∈ g.sumUp b k, U64 x
  | 0, _ => by intro x hx; simp [Grid.sumUp] at hx; subst hx; exact zero_u64
  | k + 1, hk => by
    have hk8 : k < g.all.length := by rw [h.eight]; omega
    rw [sumUp_snoc hk8]
    unfold sumRow
    split
    · exact sumUp_u64 h (by omega)
    · refine zip_u64 (sumUp_u64 h (by omega)) (fun x hx => ?_)
      have e : g.all.getD k [] = g.all[k] := by simp [List.getD, hk8]
      rw [e] at hx
      exact h.u64 _ (List.getElem_mem hk8) _ (List.mem_of_mem_tail hx)
theorem five {l : List Int} (h : l.length = 5) : ∃ a b c d e, l = [a, b, c, d, e] := by
  match l, h with
  | [a, b, c, d, e], _ => exact ⟨a, b, c, d, e, rfl⟩
theorem six {l : List Int} (h : l.length = 6) : ∃ z a b c d e, l = [z, a, b, c, d, e] := by
  match l, h with
  | [z, a, b, c, d, e], _ => exact ⟨z, a, b, c, d, e, rfl⟩

theorem index5_0 (x0 x1 x2 x3 x4 : Int) (W : World) : (Instr.index 56 (.agg #[.int .u64 x0, .int .u64 x1, .int .u64 x2, .int .u64 x3, .int .u64 x4]) (.int .i64 0)).run Try.prog W = .ok (.int .u64 x0) W := by kernel_rfl
theorem index5_1 (x0 x1 x2 x3 x4 : Int) (W : World) : (Instr.index 56 (.agg #[.int .u64 x0, .int .u64 x1, .int .u64 x2, .int .u64 x3, .int .u64 x4]) (.int .i64 1)).run Try.prog W = .ok (.int .u64 x1) W := by kernel_rfl
theorem index5_2 (x0 x1 x2 x3 x4 : Int) (W : World) : (Instr.index 56 (.agg #[.int .u64 x0, .int .u64 x1, .int .u64 x2, .int .u64 x3, .int .u64 x4]) (.int .i64 2)).run Try.prog W = .ok (.int .u64 x2) W := by kernel_rfl
theorem index5_3 (x0 x1 x2 x3 x4 : Int) (W : World) : (Instr.index 56 (.agg #[.int .u64 x0, .int .u64 x1, .int .u64 x2, .int .u64 x3, .int .u64 x4]) (.int .i64 3)).run Try.prog W = .ok (.int .u64 x3) W := by kernel_rfl
theorem index5_4 (x0 x1 x2 x3 x4 : Int) (W : World) : (Instr.index 56 (.agg #[.int .u64 x0, .int .u64 x1, .int .u64 x2, .int .u64 x3, .int .u64 x4]) (.int .i64 4)).run Try.prog W = .ok (.int .u64 x4) W := by kernel_rfl

set_option maxRecDepth 100000 in
set_option maxHeartbeats 1600000 in
theorem window_counts (p : Nat) (g : Grid) (now : Int) (w : World) (h : GridAt 6 154 w p g) (hnow : U64 now) :
    Calls Try.prog 35 #[.pointer (some ⟨p, 0, none⟩), .int .u64 now] w (CountsPost w p (g.counts now) (g.turn 5 now).2) := by
  have hpl := h.1.lt
  have hi := turn_place (k := 5) (now := now) h.2
  have HAt := Lib.hid (window_at p g now _ (h.fr (((Fr.refl Nil w).alloc (.cells #[.int .u64 0, .int .u64 0, .int .u64 0, .int .u64 0, .int .u64 0] 56)).alloc (.cells #[.int .u64 0, .int .u64 0, .int .u64 0, .int .u64 0, .int .u64 0] 56)) (fun x => x)) hnow)
  unfold Grid.counts
  generalize (g.turn 5 now).1 = i at *
  generalize (g.turn 5 now).2 = g1 at *
  generalize hb : (g1.all.getD i []).getD 0 0 = b at *
  have HB := Lib.hid hb
  clear h hb
  go_enter Try.func35, Try.ntmps35
  go_wp2_with fail
  refine HAt.out.mono ?_
  rintro e w1 ⟨rfl, h1, hf1⟩
  have hb0 := (((Blk.new w (.cells #[.int .u64 0, .int .u64 0, .int .u64 0, .int .u64 0, .int .u64 0] 56)).alloc (.cells #[.int .u64 0, .int .u64 0, .int .u64 0, .int .u64 0, .int .u64 0] 56))).fr hf1 (fun e => absurd e (by unfold Only; omega))
  have hb1 := (Blk.new (w.alloc (.cells #[.int .u64 0, .int .u64 0, .int .u64 0, .int .u64 0, .int .u64 0] 56)) (.cells #[.int .u64 0, .int .u64 0, .int .u64 0, .int .u64 0, .int .u64 0] 56)).fr hf1 (fun e => absurd e (by simp [Only]; omega))
  have f1 : Fr (Only p) w w1 := (((Fr.refl (Only p) w).alloc _).alloc _).trans hf1
  clear hf1
  have c0 := h1.elem hi (show 0 < 6 by omega)
  have hbu := h1.2.get hi (show 0 < 6 by omega)
  obtain ⟨d0, d1, d2⟩ := h1.tail
  have hf := h1.2
  have hn1 := hf.n1
  have hn8 := hf.n8
  rw [HB.out, Nat.add_zero] at c0
  rw [HB.out] at hbu
  generalize hnn : g1.n = n at *
  have HN := Lib.hid hnn
  clear hnn
  have hal : (n : Int) ≤ 8 := by omega
  go_wp2_with fail
  go_quiet (fail)
  go_wp2_with fail
  generalize hfr0 : w1.drewN _ = w2 at *
  have f2 : Fr (Only p) w w2 := by subst hfr0; exact f1.drewN _
  have h2 : GridAt 6 154 w2 p g1 := by subst hfr0; exact h1.drewN _
  have b0 : Blk w2 w.heap.size (.cells #[.int .u64 0, .int .u64 0, .int .u64 0, .int .u64 0, .int .u64 0] 56) := by subst hfr0; exact hb0
  have b1 : Blk w2 (w.heap.size + 1) (.cells #[.int .u64 0, .int .u64 0, .int .u64 0, .int .u64 0, .int .u64 0] 56) := by subst hfr0; rw [World.size_alloc] at hb1; exact hb1
  clear hfr0 f1 h1 hb0 hb1 c0 d0 d1 d2
  go_loopw [29] (fun t wr => ∃ k : Nat, k ≤ n ∧ t = .int .i64 k ∧ Blk wr (w.heap.size + 1) (.cells (u64s (g1.sumUp b k)).toArray 56) ∧ Fr (Only (w.heap.size + 1)) w2 wr) (fun t _ => n - (intOf t).toNat)
  case atStart => exact ⟨0, Nat.zero_le _, rfl, b1, Fr.refl _ _⟩
  case round =>
    obtain ⟨k, hk, rfl, hb, hfr⟩ := hrel
    have hp0 : ¬ Only (w.heap.size + 1) p := by unfold Only; omega
    have hr := h2.fr hfr hp0
    by_cases hlt : k < n
    · have hk8 : k < 8 := by omega
      obtain ⟨z, x0, x1, x2, x3, x4, hrow⟩ := six (hf.row hk8)
      obtain ⟨y0, y1, y2, y3, y4, hy⟩ := five (sumUp_length (s := 0) (b := b) hf (show k ≤ 8 by omega))
      have hus : ∀ x ∈ [y0, y1, y2, y3, y4], U64 x := by rw [← hy]; exact sumUp_u64 hf (show k ≤ 8 by omega)
      have hur : ∀ j, j < 6 → U64 ([z, x0, x1, x2, x3, x4].getD j 0) := by rw [← hrow]; exact fun j hj => hf.get hk8 hj
      have hsn := sumUp_snoc (b := b) (show k < g1.all.length by rw [hf.eight]; exact hk8)
      rw [hy, hrow, HN.out] at hsn
      rw [hy] at hb
      have e0 := hr.elem hk8 (show 0 < 6 by omega)
      have e1 := hr.elem hk8 (show 1 < 6 by omega)
      have e2 := hr.elem hk8 (show 2 < 6 by omega)
      have e3 := hr.elem hk8 (show 3 < 6 by omega)
      have e4 := hr.elem hk8 (show 4 < 6 by omega)
      have e5 := hr.elem hk8 (show 5 < 6 by omega)
      rw [hrow] at e0 e1 e2 e3 e4 e5
      simp only [List.getD_cons_zero, List.getD_cons_succ, Nat.add_zero] at e0 e1 e2 e3 e4 e5
      have d1 := hr.tail.1
      rw [HN.out] at d1
      simp only [Nat.reduceMul] at d1
      have hlp := hr.1.lt
      have v0 := hb.cell 0
      have v1 := hb.cell 1
      have v2 := hb.cell 2
      have v3 := hb.cell 3
      have v4 := hb.cell 4
      simp [u64s] at v0 v1 v2 v3 v4
      have vz0 := hb.free 0
      have vz1 := hb.free 1
      have vz2 := hb.free 2
      have vz3 := hb.free 3
      have vz4 := hb.free 4
      have hbl := hb.lt
      have HA : ∀ a c W, U64 a → U64 c → Hid (Calls Try.prog 63 #[.int .u64 a, .int .u64 c] W fun e w' => e = .returned (.int .u64 (sadd a c)) ∧ W = w') := fun a c W ha hc => Lib.hid (sat_add a c W ha hc)
      have HU := Lib.hid hus
      have HR := Lib.hid hur
      have HSN := Lib.hid hsn
      have HBk := Lib.hid hb
      have HFr := Lib.hid hfr
      have HX := Lib.hid hr
      clear hy hrow hus hur hsn hb hfr hr hf
      by_cases hg : (n : Int) ≤ IntKind.u64.wrap (b - z)
      · have hgo : sumRow n b [y0, y1, y2, y3, y4] [z, x0, x1, x2, x3, x4] = [y0, y1, y2, y3, y4] := by unfold sumRow; rw [if_pos (by simpa [gone] using hg)]
        have hbk2 := HBk.out.alloc (.cells #[.int .u64 z, .int .u64 x0, .int .u64 x1, .int .u64 x2, .int .u64 x3, .int .u64 x4] 151)
        rw [← hgo, ← HSN.out] at hbk2
        have HB2 := Lib.hid hbk2
        clear hgo hbk2
        go_wp2_with fail
        go_quiet (fail)
        go_wp2_with fail
        go_roundw
        case rel => first | exact ⟨k + 1, by omega, by go_num, HB2.out, (HFr.out.alloc _).drewN _⟩ | ((repeat apply Exists.intro); exact ⟨⟨k + 1, by omega, by go_num, HB2.out, (HFr.out.alloc _).drewN _⟩, rfl⟩)
        case measure => simp [intOf]; omega
      · have HGo := Lib.hid (show sumRow n b [y0, y1, y2, y3, y4] [z, x0, x1, x2, x3, x4] = [sadd y0 x0, sadd y1 x1, sadd y2 x2, sadd y3 x3, sadd y4 x4] by unfold sumRow; rw [if_neg (by simpa [gone] using hg)]; rfl)
        go_wp2_with fail
        go_quiet (fail)
        go_wp2_with fail
        have ix0 := index5_0 x0 x1 x2 x3 x4
        have ix1 := index5_1 x0 x1 x2 x3 x4
        have ix2 := index5_2 x0 x1 x2 x3 x4
        have ix3 := index5_3 x0 x1 x2 x3 x4
        have ix4 := index5_4 x0 x1 x2 x3 x4
        refine wp_loop_rounds 6 ?_
        rw [rounds_succ]
        go_wp2_with fail
        refine (HA y0 x0 _ (HU.out _ (by simp)) (HR.out 1 (by omega))).out.mono ?_
        rintro e w3 ⟨rfl, rfl⟩
        go_wp2_with fail
        rw [rounds_succ]
        go_wp2_with fail
        refine (HA y1 x1 _ (HU.out _ (by simp)) (HR.out 2 (by omega))).out.mono ?_
        rintro e w4 ⟨rfl, rfl⟩
        go_wp2_with fail
        rw [rounds_succ]
        go_wp2_with fail
        refine (HA y2 x2 _ (HU.out _ (by simp)) (HR.out 3 (by omega))).out.mono ?_
        rintro e w5 ⟨rfl, rfl⟩
        go_wp2_with fail
        rw [rounds_succ]
        go_wp2_with fail
        refine (HA y3 x3 _ (HU.out _ (by simp)) (HR.out 4 (by omega))).out.mono ?_
        rintro e w6 ⟨rfl, rfl⟩
        go_wp2_with fail
        rw [rounds_succ]
        go_wp2_with fail
        refine (HA y4 x4 _ (HU.out _ (by simp)) (HR.out 5 (by omega))).out.mono ?_
        rintro e w7 ⟨rfl, rfl⟩
        go_wp2_with fail
        rw [rounds_succ]
        go_wp2_with fail
        go_roundw
        case rel => exact ⟨k + 1, by omega, by go_num, by rw [HSN.out, HGo.out]; exact (((((HBk.out.alloc _).set 0 _).set 1 _).set 2 _).set 3 _).set 4 _, ((((((HFr.out.alloc _).drewN nq).setAt _ (Only.self _)).setAt _ (Only.self _)).setAt _ (Only.self _)).setAt _ (Only.self _)).setAt _ (Only.self _)⟩
        case measure => simp [intOf]; omega
    · obtain rfl : k = n := by omega
      obtain ⟨y0, y1, y2, y3, y4, hy⟩ := five (sumUp_length (s := 0) (b := b) hf (show k ≤ 8 by omega))
      rw [hy] at hb
      have HY := Lib.hid hy
      have v0 := hb.cell 0
      have v1 := hb.cell 1
      have v2 := hb.cell 2
      have v3 := hb.cell 3
      have v4 := hb.cell 4
      simp [u64s] at v0 v1 v2 v3 v4
      have b0' := b0.fr hfr (fun e => by unfold Only at e; omega)
      have o0 := b0'.cell 0
      have o1 := b0'.cell 1
      have o2 := b0'.cell 2
      have o3 := b0'.cell 3
      have o4 := b0'.cell 4
      simp at o0 o1 o2 o3 o4
      have vz0 := b0'.free 0
      have vz1 := b0'.free 1
      have vz2 := b0'.free 2
      have vz3 := b0'.free 3
      have vz4 := b0'.free 4
      have HFr := Lib.hid hfr
      have HX := Lib.hid hr
      have HB2 := Lib.hid hb
      have F2 := Lib.hid f2
      clear hfr hr hf b0' b0 b1 f2 h2 hb hy
      go_wp2_with fail
      refine bodyPost_ret (v := u64arr (g1.sumUp b k)) (by rw [HY.out]; simp [results, Try.results35, go_sem, u64arr, u64s, o0, o1, o2, o3, o4]) rfl ⟨rfl, ?_, ?_⟩
      · have hf5 : Fr (Only w.heap.size) wr _ := (((((Fr.refl (Only w.heap.size) wr).setAt (i := 0) (.int .u64 y0) (Only.self _)).setAt (i := 1) (.int .u64 y1) (Only.self _)).setAt (i := 2) (.int .u64 y2) (Only.self _)).setAt (i := 3) (.int .u64 y3) (Only.self _)).setAt (i := 4) (.int .u64 y4) (Only.self _)
        exact HX.out.fr hf5 (fun e => by unfold Only at e; omega)
      · have hf5 : Fr (Only w.heap.size) wr _ := (((((Fr.refl (Only w.heap.size) wr).setAt (i := 0) (.int .u64 y0) (Only.self _)).setAt (i := 1) (.int .u64 y1) (Only.self _)).setAt (i := 2) (.int .u64 y2) (Only.self _)).setAt (i := 3) (.int .u64 y3) (Only.self _)).setAt (i := 4) (.int .u64 y4) (Only.self _)
        exact (F2.out.step HFr.out (fun j hj e => by unfold Only at e; omega)).step hf5 (fun j hj e => by unfold Only at e; omega)

end Go.Proofs.Ythnaieeaominjaa
