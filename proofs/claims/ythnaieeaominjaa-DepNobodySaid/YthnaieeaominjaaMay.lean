/-
  Package conf: may.
-/
import Derived.Test.YthnaieeaominjaaConf
import Derived.Deep.MidRow
namespace Go.Proofs.Ythnaieeaominjaa
open Go.RowKit
set_option linter.unusedVariables false
set_option linter.unusedSimpArgs false

theorem there_fr {S : Nat → Prop} {w w' : World} {b o n : Nat} (f : Fr S w w') (hb : b < w.heap.size) (hs : ¬ S b) (h : w.there b o n) : w'.there b o n := fun j hj => by
  have hk := f.block b hb hs
  have := h j hj
  rw [World.cell?_of_block (w := w) (w' := w') hk]
  have e : w'.frozen? ⟨b, o + j, none⟩ = w.frozen? ⟨b, o + j, none⟩ := by simp only [World.frozen?, hk]
  rw [e]
  exact this
theorem there_blk {w : World} {b n : Nat} {c : Array Value} {T : TypeId} (h : Blk w b (.cells c T (0, 0))) (hn : n ≤ c.size) : w.there b 0 n := fun j hj => by
  refine ⟨?_, h.free _⟩
  rw [h.cell]; simp; omega
theorem setCells_fr {b : Nat} : ∀ {vs : List Value} {o : Nat} {w : World}, Fr (Only b) w (w.setCells b o vs)
  | [], _, w => Fr.refl _ w
  | v :: vs, o, w => ((Fr.refl _ w).setAt v (Only.self b)).trans setCells_fr

def Cf.bounds (c : Cf) : List (Int × Int) :=
  [(1, 2), (if (c.mode == 1) = true then 1 else 0, if (c.mode == 1) = true then 8 else 0), (if (c.mode == 1) = true then 0 else 0, if (c.mode == 1) = true then 8 else 0), (if (c.mode == 2) = true then 1 else 0, if (c.mode == 2) = true then 8 else 0),
   (0, 4), (0, 3), (1, 1099511627776), (1, 1099511627776), (1, 1000), (0, 100), (0, 1099511627776), (1, 8), (1, 1099511627776), (0, 1099511627776), (if decide (0 < c.win) = true then 1 else 0, if decide (0 < c.win) = true then 4 else 0), (0, 2)]

def MayCell (w' : World) (a : Nat) (x : Int) : Prop := w'.cell? ⟨a, 13, none⟩ = some (.int .u64 x)
theorem may_keep {W0 prev w1 : World} {a x} (hlt : a + 1 < W0.heap.size) (h : prev.there (a + 1) 0 32 ∧ prev.cell? ⟨a, 13, none⟩ = some (.int .u64 x) ∧ Fr (Only (a + 1)) W0 prev) (hf : Fr Nil prev w1) :
    w1.there (a + 1) 0 32 ∧ w1.cell? ⟨a, 13, none⟩ = some (.int .u64 x) ∧ Fr (Only (a + 1)) W0 w1 := by
  have hs := h.2.2.size
  exact ⟨there_fr hf (by omega) (fun x => x) h.1, (cell_fr hf (by omega) (fun x => x)).trans h.2.1, h.2.2.step hf (fun _ _ x => x.elim)⟩
theorem may_store {W0 prev : World} {a x} {vs : List Value} (h : prev.there (a + 1) 0 32 ∧ prev.cell? ⟨a, 13, none⟩ = some (.int .u64 x) ∧ Fr (Only (a + 1)) W0 prev) :
    (prev.setCells (a + 1) 0 vs).there (a + 1) 0 32 ∧ (prev.setCells (a + 1) 0 vs).cell? ⟨a, 13, none⟩ = some (.int .u64 x) ∧ Fr (Only (a + 1)) W0 (prev.setCells (a + 1) 0 vs) :=
  ⟨World.there_setCells h.1 _ _ _, (World.cell?_setCells_out _ _ _ _ _ (fun e => by simp at e)).trans h.2.1, h.2.2.trans setCells_fr⟩
theorem may_start {W0 : World} {a x} (h1 : W0.there (a + 1) 0 32) (h2 : W0.cell? ⟨a, 13, none⟩ = some (.int .u64 x)) :
    W0.drew.there (a + 1) 0 32 ∧ W0.drew.cell? ⟨a, 13, none⟩ = some (.int .u64 x) ∧ Fr (Only (a + 1)) W0 W0.drew := ⟨(World.there_drew _ _ _ _).2 h1, by simpa using h2, (Fr.refl _ _).drew⟩

theorem may_size : (Try.prog.info? 139).map (·.size) = some 32 := by kernel_rfl

set_option maxRecDepth 100000 in
set_option maxHeartbeats 12000000 in
theorem conf_may (c : Cf) (w : World) : Calls Try.prog 58 #[c.val] w fun e w' => e = .returned (.agg (pairs c.bounds).toArray) ∧ Fr Nil w w' := by
  obtain ⟨c0, c1, c2, c3, c4, c5, c6, c7, c8, c9, c10, c11, c12, c13, c14, c15⟩ := c
  unfold Cf.val Cf.cells Cf.bounds
  simp only
  generalize hp : (c0 == 1) = p
  generalize hs : (c0 == 2) = s
  generalize hq : decide (0 < c13) = q
  have W1 := fun W => Lib.hid (conf_when p 1 8 W)
  have W2 := fun W => Lib.hid (conf_when p 0 8 W)
  have W3 := fun W => Lib.hid (conf_when s 1 8 W)
  have W4 := fun W => Lib.hid (conf_when q 1 4 W)
  generalize (if p = true then (1 : Int) else 0) = a1 at *
  generalize (if p = true then (8 : Int) else 0) = b1 at *
  generalize (if p = true then (0 : Int) else 0) = a2 at *
  generalize (if s = true then (1 : Int) else 0) = a3 at *
  generalize (if s = true then (8 : Int) else 0) = b3 at *
  generalize (if q = true then (1 : Int) else 0) = a4 at *
  generalize (if q = true then (4 : Int) else 0) = b4 at *
  go_enter Try.func58, Try.ntmps58
  go_wp2_with fail
  go_quiet (fail)
  go_wp2_with fail
  have hb0 := ((Blk.new w (.cells #[.int .i64 c0, .int .i64 c1, .int .i64 c2, .int .i64 c3, .int .i64 c4, .int .i64 c5, .int .u64 c6, .int .u64 c7, .int .i64 c8, .int .i64 c9, .int .u64 c10, .int .i64 c11, .int .u64 c12, .int .u64 c13, .int .i64 c14, .int .i64 c15] 24)).alloc (.cells #[.int .i64 0, .int .i64 0, .int .i64 0, .int .i64 0, .int .i64 0, .int .i64 0, .int .i64 0, .int .i64 0, .int .i64 0, .int .i64 0, .int .i64 0, .int .i64 0, .int .i64 0, .int .i64 0, .int .i64 0, .int .i64 0, .int .i64 0, .int .i64 0, .int .i64 0, .int .i64 0, .int .i64 0, .int .i64 0, .int .i64 0, .int .i64 0, .int .i64 0, .int .i64 0, .int .i64 0, .int .i64 0, .int .i64 0, .int .i64 0, .int .i64 0, .int .i64 0] 139)).drewN nq
  have hb1 := (Blk.new (w.alloc (.cells #[.int .i64 c0, .int .i64 c1, .int .i64 c2, .int .i64 c3, .int .i64 c4, .int .i64 c5, .int .u64 c6, .int .u64 c7, .int .i64 c8, .int .i64 c9, .int .u64 c10, .int .i64 c11, .int .u64 c12, .int .u64 c13, .int .i64 c14, .int .i64 c15] 24)) (.cells #[.int .i64 0, .int .i64 0, .int .i64 0, .int .i64 0, .int .i64 0, .int .i64 0, .int .i64 0, .int .i64 0, .int .i64 0, .int .i64 0, .int .i64 0, .int .i64 0, .int .i64 0, .int .i64 0, .int .i64 0, .int .i64 0, .int .i64 0, .int .i64 0, .int .i64 0, .int .i64 0, .int .i64 0, .int .i64 0, .int .i64 0, .int .i64 0, .int .i64 0, .int .i64 0, .int .i64 0, .int .i64 0, .int .i64 0, .int .i64 0, .int .i64 0, .int .i64 0] 139)).drewN nq
  rw [World.size_alloc] at hb1
  have g0 : Fr Nil w (((w.alloc (.cells #[.int .i64 c0, .int .i64 c1, .int .i64 c2, .int .i64 c3, .int .i64 c4, .int .i64 c5, .int .u64 c6, .int .u64 c7, .int .i64 c8, .int .i64 c9, .int .u64 c10, .int .i64 c11, .int .u64 c12, .int .u64 c13, .int .i64 c14, .int .i64 c15] 24)).alloc (.cells #[.int .i64 0, .int .i64 0, .int .i64 0, .int .i64 0, .int .i64 0, .int .i64 0, .int .i64 0, .int .i64 0, .int .i64 0, .int .i64 0, .int .i64 0, .int .i64 0, .int .i64 0, .int .i64 0, .int .i64 0, .int .i64 0, .int .i64 0, .int .i64 0, .int .i64 0, .int .i64 0, .int .i64 0, .int .i64 0, .int .i64 0, .int .i64 0, .int .i64 0, .int .i64 0, .int .i64 0, .int .i64 0, .int .i64 0, .int .i64 0, .int .i64 0, .int .i64 0] 139)).drewN nq) := (((Fr.refl _ _).alloc _).alloc _).drewN _
  generalize ((w.alloc (.cells #[.int .i64 c0, .int .i64 c1, .int .i64 c2, .int .i64 c3, .int .i64 c4, .int .i64 c5, .int .u64 c6, .int .u64 c7, .int .i64 c8, .int .i64 c9, .int .u64 c10, .int .i64 c11, .int .u64 c12, .int .u64 c13, .int .i64 c14, .int .i64 c15] 24)).alloc (.cells #[.int .i64 0, .int .i64 0, .int .i64 0, .int .i64 0, .int .i64 0, .int .i64 0, .int .i64 0, .int .i64 0, .int .i64 0, .int .i64 0, .int .i64 0, .int .i64 0, .int .i64 0, .int .i64 0, .int .i64 0, .int .i64 0, .int .i64 0, .int .i64 0, .int .i64 0, .int .i64 0, .int .i64 0, .int .i64 0, .int .i64 0, .int .i64 0, .int .i64 0, .int .i64 0, .int .i64 0, .int .i64 0, .int .i64 0, .int .i64 0, .int .i64 0, .int .i64 0] 139)).drewN nq = W0 at *
  have hth : W0.there (w.heap.size + 1) 0 32 := there_blk hb1 (by simp)
  have hc13 : W0.cell? ⟨w.heap.size, 13, none⟩ = some (.int .u64 c13) := by rw [hb0.cell]; rfl
  have hlt := hb1.lt
  have hlt0 := hb0.lt
  have hsz := may_size
  have hone : ∀ v ∈ ([.int .i64 1, .int .i64 2, .int .i64 a1, .int .i64 b1, .int .i64 a2, .int .i64 b1, .int .i64 a3, .int .i64 b3, .int .i64 0, .int .i64 4, .int .i64 0, .int .i64 3, .int .i64 1, .int .i64 1099511627776, .int .i64 1, .int .i64 1099511627776, .int .i64 1, .int .i64 1000, .int .i64 0, .int .i64 100, .int .i64 0, .int .i64 1099511627776, .int .i64 1, .int .i64 8, .int .i64 1, .int .i64 1099511627776, .int .i64 0, .int .i64 1099511627776, .int .i64 a4, .int .i64 b4, .int .i64 0, .int .i64 2] : List Value), v.oneCell' = true := by simp [Value.oneCell']
  clear hb0 hb1
  go_region_held3 (fun w' => w'.there (w.heap.size + 1) 0 32 ∧ w'.cell? ⟨w.heap.size, 13, none⟩ = some (.int .u64 c13) ∧ Fr (Only (w.heap.size + 1)) W0 w')
    (first | (with_reducible refine may_store ?_; with_reducible assumption) | with_reducible exact may_start hth hc13 | (with_reducible refine may_keep hlt ?_ hf4; with_reducible assumption) | (with_reducible refine may_keep hlt ?_ hf3; with_reducible assumption) | (with_reducible refine may_keep hlt ?_ hf2; with_reducible assumption) | (with_reducible refine may_keep hlt ?_ hf1; with_reducible assumption))
    (first | (go_at_call 90; with_reducible refine (W1 _).out.mono ?_; rintro e w1 ⟨rfl, hf1⟩) | (go_at_call 90; with_reducible refine (W2 _).out.mono ?_; rintro e w2 ⟨rfl, hf2⟩) | (go_at_call 90; with_reducible refine (W3 _).out.mono ?_; rintro e w3 ⟨rfl, hf3⟩) | (go_at_call 90; with_reducible refine (W4 _).out.mono ?_; rintro e w4 ⟨rfl, hf4⟩))
  have f4 : Fr Nil W0 w4 := ((((Fr.refl Nil W0).drew).trans hf1).trans hf2 |>.trans hf3).trans hf4
  have t4 : w4.there (w.heap.size + 1) 0 32 := there_fr f4 hlt (fun x => x) hth
  have hr := World.rangeAt_setCells_same w4 (w.heap.size + 1) 0 [.int .i64 1, .int .i64 2, .int .i64 a1, .int .i64 b1, .int .i64 a2, .int .i64 b1, .int .i64 a3, .int .i64 b3, .int .i64 0, .int .i64 4, .int .i64 0, .int .i64 3, .int .i64 1, .int .i64 1099511627776, .int .i64 1, .int .i64 1099511627776, .int .i64 1, .int .i64 1000, .int .i64 0, .int .i64 100, .int .i64 0, .int .i64 1099511627776, .int .i64 1, .int .i64 8, .int .i64 1, .int .i64 1099511627776, .int .i64 0, .int .i64 1099511627776, .int .i64 a4, .int .i64 b4, .int .i64 0, .int .i64 2] t4
  have f5 : Fr (Only (w.heap.size + 1)) w4 (w4.setCells (w.heap.size + 1) 0 [.int .i64 1, .int .i64 2, .int .i64 a1, .int .i64 b1, .int .i64 a2, .int .i64 b1, .int .i64 a3, .int .i64 b3, .int .i64 0, .int .i64 4, .int .i64 0, .int .i64 3, .int .i64 1, .int .i64 1099511627776, .int .i64 1, .int .i64 1099511627776, .int .i64 1, .int .i64 1000, .int .i64 0, .int .i64 100, .int .i64 0, .int .i64 1099511627776, .int .i64 1, .int .i64 8, .int .i64 1, .int .i64 1099511627776, .int .i64 0, .int .i64 1099511627776, .int .i64 a4, .int .i64 b4, .int .i64 0, .int .i64 2]) := setCells_fr
  generalize w4.setCells (w.heap.size + 1) 0 [.int .i64 1, .int .i64 2, .int .i64 a1, .int .i64 b1, .int .i64 a2, .int .i64 b1, .int .i64 a3, .int .i64 b3, .int .i64 0, .int .i64 4, .int .i64 0, .int .i64 3, .int .i64 1, .int .i64 1099511627776, .int .i64 1, .int .i64 1099511627776, .int .i64 1, .int .i64 1000, .int .i64 0, .int .i64 100, .int .i64 0, .int .i64 1099511627776, .int .i64 1, .int .i64 8, .int .i64 1, .int .i64 1099511627776, .int .i64 0, .int .i64 1099511627776, .int .i64 a4, .int .i64 b4, .int .i64 0, .int .i64 2] = w5 at *
  have HV := Lib.hid (run_loadVar_mid (P := Try.prog) w5 (w.heap.size + 1) 0 139 [.int .i64 1, .int .i64 2, .int .i64 a1, .int .i64 b1, .int .i64 a2, .int .i64 b1, .int .i64 a3, .int .i64 b3, .int .i64 0, .int .i64 4, .int .i64 0, .int .i64 3, .int .i64 1, .int .i64 1099511627776, .int .i64 1, .int .i64 1099511627776, .int .i64 1, .int .i64 1000, .int .i64 0, .int .i64 100, .int .i64 0, .int .i64 1099511627776, .int .i64 1, .int .i64 8, .int .i64 1, .int .i64 1099511627776, .int .i64 0, .int .i64 1099511627776, .int .i64 a4, .int .i64 b4, .int .i64 0, .int .i64 2] _ hr Try.underlying139 rfl hsz)
  have HF := Lib.hid ((g0.trans f4).step f5 (fun j hj e => by unfold Only at e; omega))
  clear hr f5 f4 t4 hf1 hf2 hf3 hf4 g0 hone hsz hth hc13
  go_wp2_with fail
  refine bodyPost_ret (v := .agg ([.int .i64 1, .int .i64 2, .int .i64 a1, .int .i64 b1, .int .i64 a2, .int .i64 b1, .int .i64 a3, .int .i64 b3, .int .i64 0, .int .i64 4, .int .i64 0, .int .i64 3, .int .i64 1, .int .i64 1099511627776, .int .i64 1, .int .i64 1099511627776, .int .i64 1, .int .i64 1000, .int .i64 0, .int .i64 100, .int .i64 0, .int .i64 1099511627776, .int .i64 1, .int .i64 8, .int .i64 1, .int .i64 1099511627776, .int .i64 0, .int .i64 1099511627776, .int .i64 a4, .int .i64 b4, .int .i64 0, .int .i64 2] : List Value).toArray) (by simp [results, Try.results58, asAddr, HV.out]) rfl ⟨rfl, HF.out⟩

end Go.Proofs.Ythnaieeaominjaa
