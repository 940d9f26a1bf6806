/-
  Package bulk: New.
-/
import Derived.Test.YthnaieeaominjaaConf
namespace Go.Proofs.Ythnaieeaominjaa
open Go.RowKit
set_option linter.unusedVariables false
set_option linter.unusedSimpArgs false

theorem set_ne {w : World} {p m : Nat} {s : PSet} (h : SetAt w p m s) : p ≠ m := by
  rintro rfl
  obtain ⟨h1, ⟨es, c, h2, -⟩, -⟩ := h
  unfold Blk at h1 h2
  rw [h1] at h2
  cases h2

/-- What a bulk of a configuration is. -/
def Cf.most (c : Cf) : Int := if c.mode = 1 then c.pool else c.sem
def Cf.line (c : Cf) : Int := if c.mode = 1 then c.queue else 0

set_option maxRecDepth 100000 in
set_option maxHeartbeats 800000 in
theorem bulk_new (c : Cf) (w : World) (hm : c.mode = 1 ∨ c.mode = 2) (h0 : 0 ≤ c.most) (h8 : c.most ≤ 8) (q0 : 0 ≤ c.line) (q8 : c.line ≤ 8) :
    Calls Try.prog 25 #[c.val] w fun e w' => ∃ i : BulkIds, e = .returned (.pointer (some ⟨i.b, 0, none⟩)) ∧ BulkAt w' i ⟨⟨c.most, []⟩, ⟨c.line, []⟩⟩ ∧
      (w.heap.size ≤ i.b ∧ w.heap.size ≤ i.s ∧ w.heap.size ≤ i.m ∧ w.heap.size ≤ i.r ∧ i.b ≠ i.s ∧ i.s ≠ i.r) ∧ Fr Nil w w' := by
  obtain ⟨c0, c1, c2, c3, c4, c5, c6, c7, c8, c9, c10, c11, c12, c13, c14, c15⟩ := c
  unfold Cf.val Cf.cells
  simp only [Cf.most, Cf.line] at *
  rcases hm with rfl | rfl
  · simp only [if_true] at *
    have HP := fun W => Lib.hid (permit_new c1 W h0 h8)
    have HR := fun W => Lib.hid (ring_new c2 W q0 q8)
    clear h0 h8 q0 q8
    go_enter Try.func25, Try.ntmps25
    go_wp2_with fail
    go_quiet (fail)
    go_wp2_with fail
    refine (HP _).out.mono ?_
    rintro e w1 ⟨p, m, rfl, h1, hp1, hm1, f1⟩
    go_wp2_with fail
    refine (HR _).out.mono ?_
    rintro e w2 ⟨r, rfl, h2, hr2, f2⟩
    have z1 : w.heap.size ≤ w1.heap.size := by have := f1.size; simp at this; omega
    have z2 := f2.size
    have zp := h1.1.lt
    have zm := h1.2.1.lt
    have hpm := set_ne h1
    have g1 : Fr Nil w w1 := ((Fr.refl _ _).alloc _).trans ((Fr.refl _ _).drewN _ |>.trans f1)
    replace hp1 : w.heap.size ≤ p := by simp at hp1; omega
    replace hm1 : w.heap.size ≤ m := by simp at hm1; omega
    have g2 : Fr Nil w w2 := g1.trans f2
    have h2' := h2.fr ((Fr.refl Nil w2).alloc (.cells #[.pointer (some ⟨p, 0, none⟩), .pointer (some ⟨r, 0, none⟩)] 146)) (fun x => x)
    have h1' := h1.fr (f2.trans ((Fr.refl Nil w2).alloc (.cells #[.pointer (some ⟨p, 0, none⟩), .pointer (some ⟨r, 0, none⟩)] 146))) (fun x => x) (fun x => x)
    have zr := h2.lt
    have H1 := Lib.hid h1'
    have H2 := Lib.hid h2'
    have G2 := Lib.hid g2
    clear h1 h2 h1' h2' g1 g2 f1 f2
    go_wp2_with fail
    go_ret
    exact ⟨⟨w2.heap.size, p, m, r⟩, by simp, ⟨Blk.new _ _, H1.out, H2.out, by simp only; omega, by simp only; omega, by simp only; omega, by simp only; omega⟩, ⟨by simp only; omega, by simp only; omega, by simp only; omega, by simp only; omega, by simp only; omega, by simp only; omega⟩, G2.out.alloc _⟩
  · simp only [Int.reduceEq, if_false] at *
    have HP := fun W => Lib.hid (permit_new c3 W h0 h8)
    have HR := fun W => Lib.hid (ring_new 0 W q0 q8)
    clear h0 h8 q0 q8
    go_enter Try.func25, Try.ntmps25
    go_wp2_with fail
    go_quiet (fail)
    go_wp2_with fail
    refine (HP _).out.mono ?_
    rintro e w1 ⟨p, m, rfl, h1, hp1, hm1, f1⟩
    go_wp2_with fail
    refine (HR _).out.mono ?_
    rintro e w2 ⟨r, rfl, h2, hr2, f2⟩
    have z1 : w.heap.size ≤ w1.heap.size := by have := f1.size; simp at this; omega
    have z2 := f2.size
    have zp := h1.1.lt
    have zm := h1.2.1.lt
    have hpm := set_ne h1
    have g1 : Fr Nil w w1 := ((Fr.refl _ _).alloc _).trans ((Fr.refl _ _).drewN _ |>.trans f1)
    replace hp1 : w.heap.size ≤ p := by simp at hp1; omega
    replace hm1 : w.heap.size ≤ m := by simp at hm1; omega
    have g2 : Fr Nil w w2 := g1.trans f2
    have h2' := h2.fr ((Fr.refl Nil w2).alloc (.cells #[.pointer (some ⟨p, 0, none⟩), .pointer (some ⟨r, 0, none⟩)] 146)) (fun x => x)
    have h1' := h1.fr (f2.trans ((Fr.refl Nil w2).alloc (.cells #[.pointer (some ⟨p, 0, none⟩), .pointer (some ⟨r, 0, none⟩)] 146))) (fun x => x) (fun x => x)
    have zr := h2.lt
    have H1 := Lib.hid h1'
    have H2 := Lib.hid h2'
    have G2 := Lib.hid g2
    clear h1 h2 h1' h2' g1 g2 f1 f2
    go_wp2_with fail
    go_ret
    exact ⟨⟨w2.heap.size, p, m, r⟩, by simp, ⟨Blk.new _ _, H1.out, H2.out, by simp only; omega, by simp only; omega, by simp only; omega, by simp only; omega⟩, ⟨by simp only; omega, by simp only; omega, by simp only; omega, by simp only; omega, by simp only; omega, by simp only; omega⟩, G2.out.alloc _⟩

end Go.Proofs.Ythnaieeaominjaa
