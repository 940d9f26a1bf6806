/-
  Nobody's dependency: its methods, called on no pointer.
-/
import Derived.Test.YthnaieeaominjaaRef08
namespace Go.Proofs.Ythnaieeaominjaa
open Go.RowKit
set_option linter.unusedVariables false
set_option linter.unusedSimpArgs false

/-- The call names a bad argument, and tells nothing. -/
def BadPost (w : World) (e : Ending) (w' : World) : Prop := e = .returned (.tuple #[.agg #[.slice none 0 0, .slice none 0 0], .int .i64 1]) ∧ Fr Nil w w'

theorem nil_pick (now : Int) (w : World) : Calls Try.prog 15 #[.pointer none, .int .u64 now] w (BadPost w) := by
  unfold BadPost
  have g0 : Fr Nil w (w.alloc (.cells #[.slice none 0 0, .slice none 0 0] 62)) := (Fr.refl _ _).alloc _
  have hq := Blk.new w (.cells #[.slice none 0 0, .slice none 0 0] 62)
  have r0 := hq.cell 0
  have r1 := hq.cell 1
  have z0 := hq.free 0
  have z1 := hq.free 1
  simp at r0 r1
  have hq2 := (hq.set 0 (.slice none 0 0)).set 1 (.slice none 0 0)
  have s0 := hq2.cell 0
  have s1 := hq2.cell 1
  simp at s0 s1
  have HFin : Hid (Fr Nil w (((w.alloc (.cells #[.slice none 0 0, .slice none 0 0] 62)).setCell ⟨w.heap.size, 0, none⟩ (.slice none 0 0)).setCell ⟨w.heap.size, 1, none⟩ (.slice none 0 0))) := Lib.hid (g0.step (((Fr.refl _ _).setAt _ (Only.self _)).setAt _ (Only.self _) : Fr (Only (w.heap.size)) _ _) (fun k hk e => by unfold Only at e; omega))
  have HG := Lib.hid g0
  clear hq hq2 g0
  go_enter Try.func15, Try.ntmps15
  go_wp2_with fail
  exact bodyPost_ret (v := .tuple #[.agg #[.slice none 0 0, .slice none 0 0], .int .i64 1]) (by simp [results, Try.results15, go_sem, s0, s1]) rfl ⟨rfl, by first | exact HFin.out | exact HG.out⟩


theorem nil_answer (now id : Int) (ok : Bool) (v : Value) (w : World) : Calls Try.prog 16 #[.pointer none, .int .u64 now, .int .i64 id, .bool ok, v] w (BadPost w) := by
  unfold BadPost
  have g0 : Fr Nil w (w.alloc (.cells #[.slice none 0 0, .slice none 0 0] 62)) := (Fr.refl _ _).alloc _
  have hq := Blk.new w (.cells #[.slice none 0 0, .slice none 0 0] 62)
  have r0 := hq.cell 0
  have r1 := hq.cell 1
  have z0 := hq.free 0
  have z1 := hq.free 1
  simp at r0 r1
  have hq2 := (hq.set 0 (.slice none 0 0)).set 1 (.slice none 0 0)
  have s0 := hq2.cell 0
  have s1 := hq2.cell 1
  simp at s0 s1
  have HFin : Hid (Fr Nil w (((w.alloc (.cells #[.slice none 0 0, .slice none 0 0] 62)).setCell ⟨w.heap.size, 0, none⟩ (.slice none 0 0)).setCell ⟨w.heap.size, 1, none⟩ (.slice none 0 0))) := Lib.hid (g0.step (((Fr.refl _ _).setAt _ (Only.self _)).setAt _ (Only.self _) : Fr (Only (w.heap.size)) _ _) (fun k hk e => by unfold Only at e; omega))
  have HG := Lib.hid g0
  clear hq hq2 g0
  go_enter Try.func16, Try.ntmps16
  go_wp2_with fail
  exact bodyPost_ret (v := .tuple #[.agg #[.slice none 0 0, .slice none 0 0], .int .i64 1]) (by simp [results, Try.results16, go_sem, s0, s1]) rfl ⟨rfl, by first | exact HFin.out | exact HG.out⟩


theorem nil_fallback (now id step : Int) (ok : Bool) (v : Value) (w : World) : Calls Try.prog 17 #[.pointer none, .int .u64 now, .int .i64 id, .int .i64 step, .bool ok, v] w (BadPost w) := by
  unfold BadPost
  have g0 : Fr Nil w (w.alloc (.cells #[.slice none 0 0, .slice none 0 0] 62)) := (Fr.refl _ _).alloc _
  have hq := Blk.new w (.cells #[.slice none 0 0, .slice none 0 0] 62)
  have r0 := hq.cell 0
  have r1 := hq.cell 1
  have z0 := hq.free 0
  have z1 := hq.free 1
  simp at r0 r1
  have hq2 := (hq.set 0 (.slice none 0 0)).set 1 (.slice none 0 0)
  have s0 := hq2.cell 0
  have s1 := hq2.cell 1
  simp at s0 s1
  have HFin : Hid (Fr Nil w (((w.alloc (.cells #[.slice none 0 0, .slice none 0 0] 62)).setCell ⟨w.heap.size, 0, none⟩ (.slice none 0 0)).setCell ⟨w.heap.size, 1, none⟩ (.slice none 0 0))) := Lib.hid (g0.step (((Fr.refl _ _).setAt _ (Only.self _)).setAt _ (Only.self _) : Fr (Only (w.heap.size)) _ _) (fun k hk e => by unfold Only at e; omega))
  have HG := Lib.hid g0
  clear hq hq2 g0
  go_enter Try.func17, Try.ntmps17
  go_wp2_with fail
  exact bodyPost_ret (v := .tuple #[.agg #[.slice none 0 0, .slice none 0 0], .int .i64 1]) (by simp [results, Try.results17, go_sem, s0, s1]) rfl ⟨rfl, by first | exact HFin.out | exact HG.out⟩


theorem nil_offer (now : Int) (M : Nat → Prop) (a m : Sl) (ml : List (Int × Int)) (w : World) (hm : Rd w M m 2 ml.length (pairs ml)) : Calls Try.prog 13 #[.pointer none, .int .u64 now, .agg #[a.val, m.val]] w (BadPost w) := by
  unfold BadPost
  have HL := fun W (f : Fr Nil w W) => Lib.hid (batch_lead _ a m ml W (hm.fr f (fun _ _ x => x.elim)))
  have g1 : Fr Nil w (w.alloc (.cells #[a.val, m.val] 70)) := (Fr.refl _ _).alloc _
  have g2 : Fr Nil w ((w.alloc (.cells #[a.val, m.val] 70)).alloc (.cells #[.slice none 0 0, .slice none 0 0] 62)) := g1.alloc _
  have hq0 := Blk.new (w.alloc (.cells #[a.val, m.val] 70)) (.cells #[.slice none 0 0, .slice none 0 0] 62)
  rw [World.size_alloc] at hq0
  obtain ⟨aa, an, ac⟩ := a
  obtain ⟨ma, mn, mc⟩ := m
  unfold Sl.val at *
  simp only at *
  generalize leadOf ml = L at *
  clear hm g1
  go_enter Try.func13, Try.ntmps13
  go_wp2_with fail
  refine (HL _ g2).out.mono ?_
  rintro e w1 ⟨rfl, hf⟩
  have g3 := g2.trans hf
  have hq1 := hq0.fr hf (fun x => x)
  clear HL hf g2 hq0
  have r0 := hq1.cell 0
  have r1 := hq1.cell 1
  have z0 := hq1.free 0
  have z1 := hq1.free 1
  simp at r0 r1
  have hq2 := (hq1.set 0 (.slice none 0 0)).set 1 (.slice none 0 0)
  have s0 := hq2.cell 0
  have s1 := hq2.cell 1
  simp at s0 s1
  have HFin : Hid (Fr Nil w (((w1).setCell ⟨w.heap.size + 1, 0, none⟩ (.slice none 0 0)).setCell ⟨w.heap.size + 1, 1, none⟩ (.slice none 0 0))) := Lib.hid (g3.step (((Fr.refl _ _).setAt _ (Only.self _)).setAt _ (Only.self _) : Fr (Only (w.heap.size + 1)) _ _) (fun k hk e => by unfold Only at e; omega))
  have HG := Lib.hid g3
  clear hq1 hq2
  go_wp2_with fail
  exact bodyPost_ret (v := .tuple #[.agg #[.slice none 0 0, .slice none 0 0], .int .i64 1]) (by simp [results, Try.results13, go_sem, s0, s1]) rfl ⟨rfl, by first | exact HFin.out | exact HG.out⟩

theorem nil_knows (id : Int) (w : World) : Calls Try.prog 19 #[.pointer none, .int .i64 id] w fun e w' => e = .returned (.bool false) ∧ Fr Nil w w' := by
  go_enter Try.func19, Try.ntmps19
  go_wp2_with fail
  go_ret
  exact ⟨rfl, by first | exact Fr.refl _ _ | exact (Fr.refl _ _).alloc _⟩

theorem nil_snap (now : Int) (w : World) : Calls Try.prog 11 #[.pointer none, .int .u64 now] w fun e w' => e = .returned (.agg #[.int .i64 0, .int .i64 0, .int .i64 0, .int .i64 0, .int .i64 0, .int .u64 0, .int .u64 0, .int .u64 0, .int .u64 0, .int .u64 0, .int .u64 0, .int .u64 0]) ∧ Fr Nil w w' := by
  have HG := Lib.hid (((Fr.refl _ _).alloc _ : Fr Nil w (w.alloc (.cells #[.int .i64 0, .int .i64 0, .int .i64 0, .int .i64 0, .int .i64 0, .int .u64 0, .int .u64 0, .int .u64 0, .int .u64 0, .int .u64 0, .int .u64 0, .int .u64 0] 58))))
  have hq := Blk.new w (.cells #[.int .i64 0, .int .i64 0, .int .i64 0, .int .i64 0, .int .i64 0, .int .u64 0, .int .u64 0, .int .u64 0, .int .u64 0, .int .u64 0, .int .u64 0, .int .u64 0] 58)
  have r0 := hq.cell 0
  have z0 := hq.free 0
  have r1 := hq.cell 1
  have z1 := hq.free 1
  have r2 := hq.cell 2
  have z2 := hq.free 2
  have r3 := hq.cell 3
  have z3 := hq.free 3
  have r4 := hq.cell 4
  have z4 := hq.free 4
  have r5 := hq.cell 5
  have z5 := hq.free 5
  have r6 := hq.cell 6
  have z6 := hq.free 6
  have r7 := hq.cell 7
  have z7 := hq.free 7
  have r8 := hq.cell 8
  have z8 := hq.free 8
  have r9 := hq.cell 9
  have z9 := hq.free 9
  have r10 := hq.cell 10
  have z10 := hq.free 10
  have r11 := hq.cell 11
  have z11 := hq.free 11
  simp at r0 r1 r2 r3 r4 r5 r6 r7 r8 r9 r10 r11
  clear hq
  go_enter Try.func11, Try.ntmps11
  go_wp2_with fail
  exact bodyPost_ret (v := .agg #[.int .i64 0, .int .i64 0, .int .i64 0, .int .i64 0, .int .i64 0, .int .u64 0, .int .u64 0, .int .u64 0, .int .u64 0, .int .u64 0, .int .u64 0, .int .u64 0]) (by simp [results, Try.results11, go_sem, r0, r1, r2, r3, r4, r5, r6, r7, r8, r9, r10, r11]) rfl ⟨rfl, HG.out⟩

theorem nil_late (now id : Int) (w : World) : Calls Try.prog 18 #[.pointer none, .int .u64 now, .int .i64 id] w fun e w' => e = .returned (.agg #[.slice none 0 0, .slice none 0 0]) ∧ Fr Nil w w' := by
  have HK := fun W => Lib.hid (nil_knows id W)
  have g0 : Fr Nil w ((w.alloc (.cells #[.slice none 0 0, .slice none 0 0] 62)).alloc (.cells #[.pointer none, .slice none 0 0, .slice none 0 0, .int .u64 now] 113)) := ((Fr.refl _ _).alloc _).alloc _
  have hq0 := (Blk.new w (.cells #[.slice none 0 0, .slice none 0 0] 62)).alloc (.cells #[.pointer none, .slice none 0 0, .slice none 0 0, .int .u64 now] 113)
  have hx0 := Blk.new (w.alloc (.cells #[.slice none 0 0, .slice none 0 0] 62)) (.cells #[.pointer none, .slice none 0 0, .slice none 0 0, .int .u64 now] 113)
  rw [World.size_alloc] at hx0
  go_enter Try.func18, Try.ntmps18
  go_wp2_with fail
  refine (HK _).out.mono ?_
  rintro e w1 ⟨rfl, hf⟩
  have g3 := g0.trans hf
  have hq1 := hq0.fr hf (fun x => x)
  have hx1 := hx0.fr hf (fun x => x)
  have x1 := hx1.cell 1
  have x2 := hx1.cell 2
  simp at x1 x2
  clear HK hf g0 hq0 hx0 hx1
  have r0 := hq1.cell 0
  have r1 := hq1.cell 1
  have z0 := hq1.free 0
  have z1 := hq1.free 1
  simp at r0 r1
  have hq2 := (hq1.set 0 (.slice none 0 0)).set 1 (.slice none 0 0)
  have s0 := hq2.cell 0
  have s1 := hq2.cell 1
  simp at s0 s1
  have HFin : Hid (Fr Nil w (((w1).setCell ⟨w.heap.size, 0, none⟩ (.slice none 0 0)).setCell ⟨w.heap.size, 1, none⟩ (.slice none 0 0))) := Lib.hid (g3.step (((Fr.refl _ _).setAt _ (Only.self _)).setAt _ (Only.self _) : Fr (Only (w.heap.size)) _ _) (fun k hk e => by unfold Only at e; omega))
  have HG := Lib.hid g3
  clear hq1 hq2
  go_wp2_with fail
  exact bodyPost_ret (v := .agg #[.slice none 0 0, .slice none 0 0]) (by simp [results, Try.results18, go_sem, s0, s1]) rfl ⟨rfl, by first | exact HFin.out | exact HG.out⟩

end Go.Proofs.Ythnaieeaominjaa
