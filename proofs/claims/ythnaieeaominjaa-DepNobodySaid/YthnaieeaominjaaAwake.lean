/-
  The law's one and awake.
-/
import Derived.Test.YthnaieeaominjaaDok
namespace Go.Proofs.Ythnaieeaominjaa
open Go.RowKit
set_option linter.unusedVariables false
set_option linter.unusedSimpArgs false

def OnePost (w : World) (id x : Int) (e : Ending) (w' : World) : Prop :=
  ∃ a m : Sl, e = .returned (.agg #[a.val, m.val]) ∧ Rd w' (fun b => b < w.heap.size) a 1 1 (ints [x]) ∧ Rd w' (fun b => b < w.heap.size) m 2 1 (pairs [(id, 0)]) ∧ Fr Nil w w'
theorem law_one (id x : Int) (w : World) : Calls Try.prog 14 #[.int .i64 id, .int .i64 x] w (OnePost w id x) := by
  have f0 : Fr Nil w (w.alloc (.cells #[.slice none 0 0, .slice none 0 0] 70)) := (Fr.refl _ _).alloc _
  have hq := Blk.new w (.cells #[.slice none 0 0, .slice none 0 0] 70)
  have HB := Lib.hid (batch_one id x (w.alloc (.cells #[.slice none 0 0, .slice none 0 0] 70)))
  go_enter Try.func14, Try.ntmps14
  go_wp2_with fail
  refine HB.out.mono ?_
  rintro e w1 ⟨⟨aa, an, ac⟩, ⟨ma, mn, mc⟩, rfl, ha, hm, hf⟩
  have hq1 := hq.fr hf (fun x => x)
  have r0 := hq1.cell 0
  have r1 := hq1.cell 1
  have z0 := hq1.free 0
  have z1 := hq1.free 1
  simp at r0 r1
  have hq2 := (hq1.set 0 (.slice aa an ac)).set 1 (.slice ma mn mc)
  have s0 := hq2.cell 0
  have s1 := hq2.cell 1
  simp at s0 s1
  have fq : Fr (Only w.heap.size) w1 ((w1.setCell ⟨w.heap.size, 0, none⟩ (.slice aa an ac)).setCell ⟨w.heap.size, 1, none⟩ (.slice ma mn mc)) := ((Fr.refl _ _).setAt _ (Only.self _)).setAt _ (Only.self _)
  have HFin : OnePost w id x (.returned (.agg #[.slice aa an ac, .slice ma mn mc])) ((w1.setCell ⟨w.heap.size, 0, none⟩ (.slice aa an ac)).setCell ⟨w.heap.size, 1, none⟩ (.slice ma mn mc)) :=
    ⟨⟨aa, an, ac⟩, ⟨ma, mn, mc⟩, rfl, (ha.fr fq (fun b _ e => by unfold Only at e; simp only [World.size_alloc]; omega)).mono (fun b _ e => by simp only [World.size_alloc]; omega), (hm.fr fq (fun b _ e => by unfold Only at e; simp only [World.size_alloc]; omega)).mono (fun b _ e => by simp only [World.size_alloc]; omega), (f0.trans hf).step fq (fun k hk e => by unfold Only at e; omega)⟩
  have HF := Lib.hid HFin
  unfold Sl.val
  clear hq2 hq1 ha hm hf hq HB fq f0 HFin
  go_wp2_with fail
  exact bodyPost_ret (v := .agg #[.slice aa an ac, .slice ma mn mc]) (by simp [results, Try.results14, go_sem, s0, s1]) rfl HF.out

/-- Cells that are kept. -/
def Keep (B : Nat) (w : World) (l : List (Nat × Nat × Value)) : Prop := ∀ x ∈ l, B ≤ x.1 ∧ x.1 < w.heap.size ∧ w.cell? ⟨x.1, x.2.1, none⟩ = some x.2.2
theorem Keep.nil (B : Nat) (w : World) : Keep B w [] := fun x hx => by cases hx
theorem Keep.fr {S : Nat → Prop} {B : Nat} {w w' : World} {l : List (Nat × Nat × Value)} (h : Keep B w l) (f : Fr S w w') (hS : ∀ k, B ≤ k → ¬ S k) : Keep B w' l := fun x hx =>
  have ⟨h1, h2, h3⟩ := h x hx
  ⟨h1, Nat.lt_of_lt_of_le h2 f.size, (cell_fr f h2 (hS _ h1)).trans h3⟩
theorem Keep.cons {B b o : Nat} {v : Value} {w : World} {l : List (Nat × Nat × Value)} (h : Keep B w l) (h1 : B ≤ b) (h2 : b < w.heap.size) (h3 : w.cell? ⟨b, o, none⟩ = some v) : Keep B w ((b, o, v) :: l) := fun x hx => by
  rcases List.mem_cons.1 hx with rfl | hx
  · exact ⟨h1, h2, h3⟩
  · exact h x hx
theorem Keep.get {B b o : Nat} {v : Value} {w : World} {l : List (Nat × Nat × Value)} (h : Keep B w l) (hm : (b, o, v) ∈ l) : w.cell? ⟨b, o, none⟩ = some v := (h _ hm).2.2

theorem act_eq (w : World) : (Op.equalIn 10000 80 (.agg #[.bool true, .int .i64 1, .int .u64 10]) (.agg #[.bool true, .int .i64 1, .int .u64 10])).run Try.prog w = .ok true w := by kernel_rfl
theorem cnt_eq (w : World) : (Op.equalIn 10000 56 (.agg #[.int .u64 0, .int .u64 0, .int .u64 2, .int .u64 0, .int .u64 0]) (.agg #[.int .u64 0, .int .u64 0, .int .u64 2, .int .u64 0, .int .u64 0])).run Try.prog w = .ok true w := by kernel_rfl

set_option maxRecDepth 100000 in
set_option maxHeartbeats 6400000 in
theorem law_awake (w : World) : Calls Try.prog 5 #[] w fun e w' => e = .returned (.bool true) ∧ Fr Nil w w' := by
  have HNew := ok_new w exCf (fun _ => False) exCf_typed exCf_good
  unfold Cf.val Cf.cells exCf at HNew
  simp only at HNew
  have HNew2 := Lib.hid HNew
  clear HNew
  have ha1 := act_eq
  have hc1 := cnt_eq
  go_enter Try.func5, Try.ntmps5
  go_wp2_with fail
  refine HNew2.out.mono ?_
  rintro e w0 ⟨j, hjx, rfl, hD, hjn, G0⟩
  have HX := Lib.hid hjx
  have HJn := Lib.hid hjn
  clear hjn
  obtain ⟨B0, hB0⟩ : ∃ B0, B0 = w0.heap.size := ⟨_, rfl⟩
  have HB := Lib.hid (show ∀ k, B0 ≤ k → ¬ j.S k from fun k h e => by have := hD.old k e; omega)
  have G : Fr j.S w w0 := G0.mono (fun _ _ e => e.elim)
  have hsz : B0 ≤ w0.heap.size := Nat.le_of_eq hB0
  have K := Keep.nil B0 w0
  clear hB0 hjx HNew2 G0
  go_wp2_with fail
  refine (law_one 1 5 _).mono ?_
  rintro e w1 ⟨⟨sa, sn, sc⟩, ⟨sma, smn, smc⟩, rfl, hs, hms, fo⟩
  have Rds := hs.mono (M' := fun k => j.S k ∨ j.ex k) (fun b _ e => by rcases e with e | e; exact Nat.lt_of_not_le (fun h => HB.out b (Nat.le_trans hsz h) e); rw [HX.out] at e; exact e.elim)
  have Rms := hms.mono (M' := fun k => j.S k ∨ j.ex k) (fun b _ e => by rcases e with e | e; exact Nat.lt_of_not_le (fun h => HB.out b (Nat.le_trans hsz h) e); rw [HX.out] at e; exact e.elim)
  replace hD := hD.nil fo
  replace K := K.fr fo (fun _ _ e => e)
  replace G := G.trans (fo.mono (fun _ _ e => e.elim) : Fr j.S _ _)
  replace hsz := Nat.le_trans hsz fo.size
  clear fo hs hms
  unfold Sl.val
  simp only
  go_wp2_with fail
  refine (ok_offer j (Dp.new exCf) 0 _ ⟨sa, sn, sc⟩ ⟨sma, smn, smc⟩ [5] [(1, 0)] hD (by unfold U64; omega) Rds Rms).mono ?_
  rintro e w2 ⟨va, vo, rfl, hr, hd, fo⟩
  rw [(ex1_told ⟨sa, sn, sc⟩ ⟨sma, smn, smc⟩).1] at hr
  rw [(ex1_told ⟨sa, sn, sc⟩ ⟨sma, smn, smc⟩).2]
  replace hD : Dok w2 j (ex1 ⟨sa, sn, sc⟩ ⟨sma, smn, smc⟩) := hd
  replace K := K.fr fo HB.out
  replace G := G.trans fo
  obtain ⟨ra, ro⟩ := hr
  simp only [List.length_nil, List.length_cons, Nat.zero_add] at ra ro
  obtain ⟨g2, c2, rfl, bg, lg, kg⟩ := own_one ra
  replace bg := Nat.le_trans hsz bg
  replace K := ((K.cons bg lg (kg 2 (.int .u64 10) rfl)).cons bg lg (kg 1 (.int .i64 1) rfl)).cons bg lg (kg 0 (.bool true) rfl)
  clear bg lg kg
  obtain ⟨O2, d2, rfl⟩ := own_len ro
  replace hsz := Nat.le_trans hsz fo.size
  clear ra ro hd fo
  have fo : Fr Nil w2 (w2.alloc (.cells #[.slice (some ⟨g2, 0, none⟩) 1 c2, .slice O2 0 d2] 62)) := (Fr.refl _ _).alloc _
  have hp := Blk.new w2 (.cells #[.slice (some ⟨g2, 0, none⟩) 1 c2, .slice O2 0 d2] 62)
  have hpl := hp.lt
  obtain ⟨p2, hpe⟩ : ∃ p, p = w2.heap.size := ⟨_, rfl⟩
  have hpg : B0 ≤ p2 := by rw [hpe]; exact hsz
  rw [← hpe] at hp hpl
  replace K := ((K.fr fo (fun _ _ e => e)).cons hpg hpl ((hp.cell 1).trans (show _ = some (.slice O2 0 d2) from rfl))).cons hpg hpl ((hp.cell 0).trans (show _ = some (.slice (some ⟨g2, 0, none⟩) 1 c2) from rfl))
  replace hD := hD.nil fo
  replace G := G.trans (fo.mono (fun _ _ e => e.elim) : Fr j.S _ _)
  replace hsz := Nat.le_trans hsz fo.size
  have HPe := Lib.hid hpe
  have HWs : Hid ((w2.alloc (.cells #[.slice (some ⟨g2, 0, none⟩) 1 c2, .slice O2 0 d2] 62)).heap.size = p2 + 1) := Lib.hid (by rw [World.size_alloc, hpe])
  clear fo hp hpl hpg hpe
  go_wp2_with fail
  rw [← HPe.out]
  generalize w2.alloc (.cells #[.slice (some ⟨g2, 0, none⟩) 1 c2, .slice O2 0 d2] 62) = w2b at *
  clear HPe
  have HWz := HWs
  clear HWs
  refine (law_one 2 6 _).mono ?_
  rintro e w3 ⟨⟨ta, tn, tc⟩, ⟨tma, tmn, tmc⟩, rfl, ht, hmt, fo⟩
  have Rdt := ht.mono (M' := fun k => j.S k ∨ j.ex k) (fun b _ e => by rcases e with e | e; exact Nat.lt_of_not_le (fun h => HB.out b (Nat.le_trans hsz h) e); rw [HX.out] at e; exact e.elim)
  have Rmt := hmt.mono (M' := fun k => j.S k ∨ j.ex k) (fun b _ e => by rcases e with e | e; exact Nat.lt_of_not_le (fun h => HB.out b (Nat.le_trans hsz h) e); rw [HX.out] at e; exact e.elim)
  replace hD := hD.nil fo
  replace K := K.fr fo (fun _ _ e => e)
  replace G := G.trans (fo.mono (fun _ _ e => e.elim) : Fr j.S _ _)
  replace hsz := Nat.le_trans hsz fo.size
  clear fo ht hmt
  unfold Sl.val
  simp only
  go_wp2_with fail
  refine (ok_offer j (ex1 ⟨sa, sn, sc⟩ ⟨sma, smn, smc⟩) 1 _ ⟨ta, tn, tc⟩ ⟨tma, tmn, tmc⟩ [6] [(2, 0)] hD (by unfold U64; omega) Rdt Rmt).mono ?_
  rintro e w4 ⟨va, vo, rfl, hr, hd, fo⟩
  rw [(ex2_told ⟨sa, sn, sc⟩ ⟨sma, smn, smc⟩ ⟨ta, tn, tc⟩ ⟨tma, tmn, tmc⟩).1] at hr
  rw [(ex2_told ⟨sa, sn, sc⟩ ⟨sma, smn, smc⟩ ⟨ta, tn, tc⟩ ⟨tma, tmn, tmc⟩).2]
  replace hD : Dok w4 j (ex2 ⟨sa, sn, sc⟩ ⟨sma, smn, smc⟩ ⟨ta, tn, tc⟩ ⟨tma, tmn, tmc⟩) := hd
  replace K := K.fr fo HB.out
  replace G := G.trans fo
  obtain ⟨ra, ro⟩ := hr
  simp only [List.length_nil, List.length_cons, Nat.zero_add] at ra ro
  obtain ⟨A4, c4, rfl⟩ := own_len ra
  obtain ⟨O4, d4, rfl⟩ := own_len ro
  replace hsz := Nat.le_trans hsz fo.size
  clear ra ro hd fo
  have fo : Fr Nil w4 (w4.alloc (.cells #[.slice A4 1 c4, .slice O4 0 d4] 62)) := (Fr.refl _ _).alloc _
  have hp := Blk.new w4 (.cells #[.slice A4 1 c4, .slice O4 0 d4] 62)
  have hpl := hp.lt
  obtain ⟨p4, hpe⟩ : ∃ p, p = w4.heap.size := ⟨_, rfl⟩
  have hpg : B0 ≤ p4 := by rw [hpe]; exact hsz
  rw [← hpe] at hp hpl
  replace K := ((K.fr fo (fun _ _ e => e)).cons hpg hpl ((hp.cell 1).trans (show _ = some (.slice O4 0 d4) from rfl))).cons hpg hpl ((hp.cell 0).trans (show _ = some (.slice A4 1 c4) from rfl))
  replace hD := hD.nil fo
  replace G := G.trans (fo.mono (fun _ _ e => e.elim) : Fr j.S _ _)
  replace hsz := Nat.le_trans hsz fo.size
  have HPe := Lib.hid hpe
  have HWs : Hid ((w4.alloc (.cells #[.slice A4 1 c4, .slice O4 0 d4] 62)).heap.size = p4 + 1) := Lib.hid (by rw [World.size_alloc, hpe])
  clear fo hp hpl hpg hpe
  go_wp2_with fail
  rw [← HPe.out]
  generalize w4.alloc (.cells #[.slice A4 1 c4, .slice O4 0 d4] 62) = w4b at *
  clear HPe
  have HWz := HWs
  clear HWs
  refine (law_one 3 7 _).mono ?_
  rintro e w5 ⟨⟨ua, un, uc⟩, ⟨uma, umn, umc⟩, rfl, hu, hmu, fo⟩
  have Rdu := hu.mono (M' := fun k => j.S k ∨ j.ex k) (fun b _ e => by rcases e with e | e; exact Nat.lt_of_not_le (fun h => HB.out b (Nat.le_trans hsz h) e); rw [HX.out] at e; exact e.elim)
  have Rmu := hmu.mono (M' := fun k => j.S k ∨ j.ex k) (fun b _ e => by rcases e with e | e; exact Nat.lt_of_not_le (fun h => HB.out b (Nat.le_trans hsz h) e); rw [HX.out] at e; exact e.elim)
  replace hD := hD.nil fo
  replace K := K.fr fo (fun _ _ e => e)
  replace G := G.trans (fo.mono (fun _ _ e => e.elim) : Fr j.S _ _)
  replace hsz := Nat.le_trans hsz fo.size
  clear fo hu hmu
  unfold Sl.val
  simp only
  go_wp2_with fail
  refine (ok_offer j (ex2 ⟨sa, sn, sc⟩ ⟨sma, smn, smc⟩ ⟨ta, tn, tc⟩ ⟨tma, tmn, tmc⟩) 2 _ ⟨ua, un, uc⟩ ⟨uma, umn, umc⟩ [7] [(3, 0)] hD (by unfold U64; omega) Rdu Rmu).mono ?_
  rintro e w6 ⟨va, vo, rfl, hr, hd, fo⟩
  rw [(ex3_told ⟨sa, sn, sc⟩ ⟨sma, smn, smc⟩ ⟨ta, tn, tc⟩ ⟨tma, tmn, tmc⟩ ⟨ua, un, uc⟩ ⟨uma, umn, umc⟩).1] at hr
  rw [(ex3_told ⟨sa, sn, sc⟩ ⟨sma, smn, smc⟩ ⟨ta, tn, tc⟩ ⟨tma, tmn, tmc⟩ ⟨ua, un, uc⟩ ⟨uma, umn, umc⟩).2]
  replace hD : Dok w6 j (ex3 ⟨sa, sn, sc⟩ ⟨sma, smn, smc⟩ ⟨ta, tn, tc⟩ ⟨tma, tmn, tmc⟩ ⟨ua, un, uc⟩ ⟨uma, umn, umc⟩) := hd
  replace K := K.fr fo HB.out
  replace G := G.trans fo
  obtain ⟨ra, ro⟩ := hr
  simp only [List.length_nil, List.length_cons, Nat.zero_add] at ra ro
  obtain ⟨A6, c6, rfl⟩ := own_len ra
  obtain ⟨h6, d6, rfl, bg, lg, kg⟩ := own_one ro
  replace bg := Nat.le_trans hsz bg
  replace K := K.cons bg lg (kg 2 (.int .i64 3) rfl)
  clear bg lg kg
  replace hsz := Nat.le_trans hsz fo.size
  clear ra ro hd fo
  have fo : Fr Nil w6 (w6.alloc (.cells #[.slice A6 0 c6, .slice (some ⟨h6, 0, none⟩) 1 d6] 62)) := (Fr.refl _ _).alloc _
  have hp := Blk.new w6 (.cells #[.slice A6 0 c6, .slice (some ⟨h6, 0, none⟩) 1 d6] 62)
  have hpl := hp.lt
  obtain ⟨p6, hpe⟩ : ∃ p, p = w6.heap.size := ⟨_, rfl⟩
  have hpg : B0 ≤ p6 := by rw [hpe]; exact hsz
  rw [← hpe] at hp hpl
  replace K := ((K.fr fo (fun _ _ e => e)).cons hpg hpl ((hp.cell 1).trans (show _ = some (.slice (some ⟨h6, 0, none⟩) 1 d6) from rfl))).cons hpg hpl ((hp.cell 0).trans (show _ = some (.slice A6 0 c6) from rfl))
  replace hD := hD.nil fo
  replace G := G.trans (fo.mono (fun _ _ e => e.elim) : Fr j.S _ _)
  replace hsz := Nat.le_trans hsz fo.size
  have HPe := Lib.hid hpe
  have HWs : Hid ((w6.alloc (.cells #[.slice A6 0 c6, .slice (some ⟨h6, 0, none⟩) 1 d6] 62)).heap.size = p6 + 1) := Lib.hid (by rw [World.size_alloc, hpe])
  clear fo hp hpl hpg hpe
  go_wp2_with fail
  rw [← HPe.out]
  generalize w6.alloc (.cells #[.slice A6 0 c6, .slice (some ⟨h6, 0, none⟩) 1 d6] 62) = w6b at *
  clear HPe
  have HWz := HWs
  clear HWs
  refine (ok_late j (ex3 ⟨sa, sn, sc⟩ ⟨sma, smn, smc⟩ ⟨ta, tn, tc⟩ ⟨tma, tmn, tmc⟩ ⟨ua, un, uc⟩ ⟨uma, umn, umc⟩) 10 1 _ hD (by unfold U64; omega)).mono ?_
  rintro e w7 ⟨va, vo, rfl, hr, hd, fo⟩
  rw [ex4_told ⟨sa, sn, sc⟩ ⟨sma, smn, smc⟩ ⟨ta, tn, tc⟩ ⟨tma, tmn, tmc⟩ ⟨ua, un, uc⟩ ⟨uma, umn, umc⟩] at hr
  replace hD : Dok w7 j (ex4 ⟨sa, sn, sc⟩ ⟨sma, smn, smc⟩ ⟨ta, tn, tc⟩ ⟨tma, tmn, tmc⟩ ⟨ua, un, uc⟩ ⟨uma, umn, umc⟩) := hd
  replace K := K.fr fo HB.out
  replace G := G.trans fo
  obtain ⟨ra, ro⟩ := hr
  simp only [List.length_nil, List.length_cons, Nat.zero_add] at ra ro
  obtain ⟨A7, c7, rfl⟩ := own_len ra
  obtain ⟨O7, d7, rfl⟩ := own_len ro
  replace hsz := Nat.le_trans hsz fo.size
  clear ra ro hd fo
  have fo : Fr Nil w7 (w7.alloc (.cells #[.slice A7 0 c7, .slice O7 1 d7] 62)) := (Fr.refl _ _).alloc _
  have hp := Blk.new w7 (.cells #[.slice A7 0 c7, .slice O7 1 d7] 62)
  have hpl := hp.lt
  obtain ⟨p7, hpe⟩ : ∃ p, p = w7.heap.size := ⟨_, rfl⟩
  have hpg : B0 ≤ p7 := by rw [hpe]; exact hsz
  rw [← hpe] at hp hpl
  replace K := ((K.fr fo (fun _ _ e => e)).cons hpg hpl ((hp.cell 1).trans (show _ = some (.slice O7 1 d7) from rfl))).cons hpg hpl ((hp.cell 0).trans (show _ = some (.slice A7 0 c7) from rfl))
  replace hD := hD.nil fo
  replace G := G.trans (fo.mono (fun _ _ e => e.elim) : Fr j.S _ _)
  replace hsz := Nat.le_trans hsz fo.size
  have HPe := Lib.hid hpe
  have HWs : Hid ((w7.alloc (.cells #[.slice A7 0 c7, .slice O7 1 d7] 62)).heap.size = p7 + 1) := Lib.hid (by rw [World.size_alloc, hpe])
  clear fo hp hpl hpg hpe
  go_wp2_with fail
  rw [← HPe.out]
  generalize w7.alloc (.cells #[.slice A7 0 c7, .slice O7 1 d7] 62) = w7b at *
  clear HPe
  have HWz := HWs
  clear HWs
  refine (ok_late j (ex4 ⟨sa, sn, sc⟩ ⟨sma, smn, smc⟩ ⟨ta, tn, tc⟩ ⟨tma, tmn, tmc⟩ ⟨ua, un, uc⟩ ⟨uma, umn, umc⟩) 11 2 _ hD (by unfold U64; omega)).mono ?_
  rintro e w8 ⟨va, vo, rfl, hr, hd, fo⟩
  rw [ex5_told ⟨sa, sn, sc⟩ ⟨sma, smn, smc⟩ ⟨ta, tn, tc⟩ ⟨tma, tmn, tmc⟩ ⟨ua, un, uc⟩ ⟨uma, umn, umc⟩] at hr
  replace hD : Dok w8 j (ex5 ⟨sa, sn, sc⟩ ⟨sma, smn, smc⟩ ⟨ta, tn, tc⟩ ⟨tma, tmn, tmc⟩ ⟨ua, un, uc⟩ ⟨uma, umn, umc⟩) := hd
  replace K := K.fr fo HB.out
  replace G := G.trans fo
  obtain ⟨ra, ro⟩ := hr
  simp only [List.length_nil, List.length_cons, Nat.zero_add] at ra ro
  obtain ⟨A8, c8, rfl⟩ := own_len ra
  obtain ⟨O8, d8, rfl⟩ := own_len ro
  replace hsz := Nat.le_trans hsz fo.size
  clear ra ro hd fo
  have fo : Fr Nil w8 (w8.alloc (.cells #[.slice A8 0 c8, .slice O8 1 d8] 62)) := (Fr.refl _ _).alloc _
  have hp := Blk.new w8 (.cells #[.slice A8 0 c8, .slice O8 1 d8] 62)
  have hpl := hp.lt
  obtain ⟨p8, hpe⟩ : ∃ p, p = w8.heap.size := ⟨_, rfl⟩
  have hpg : B0 ≤ p8 := by rw [hpe]; exact hsz
  rw [← hpe] at hp hpl
  replace K := ((K.fr fo (fun _ _ e => e)).cons hpg hpl ((hp.cell 1).trans (show _ = some (.slice O8 1 d8) from rfl))).cons hpg hpl ((hp.cell 0).trans (show _ = some (.slice A8 0 c8) from rfl))
  replace hD := hD.nil fo
  replace G := G.trans (fo.mono (fun _ _ e => e.elim) : Fr j.S _ _)
  replace hsz := Nat.le_trans hsz fo.size
  have HPe := Lib.hid hpe
  have HWs : Hid ((w8.alloc (.cells #[.slice A8 0 c8, .slice O8 1 d8] 62)).heap.size = p8 + 1) := Lib.hid (by rw [World.size_alloc, hpe])
  clear fo hp hpl hpg hpe
  go_wp2_with fail
  rw [← HPe.out]
  generalize w8.alloc (.cells #[.slice A8 0 c8, .slice O8 1 d8] 62) = w8b at *
  clear HPe
  have HWz := HWs
  clear HWs
  have hrv : Rd (w8b.alloc (.cells #[.int .i64 9] 3)) (fun k => j.S k ∨ j.ex k) ⟨some ⟨w8b.heap.size, 0, none⟩, 1, 1⟩ 1 1 (ints [9]) := one_rdS (fun e => by rcases e with e | e; exact HB.out _ hsz e; rw [HX.out] at e; exact e.elim)
  rw [HWz.out] at hrv
  have fo : Fr Nil w8b (w8b.alloc (.cells #[.int .i64 9] 3)) := (Fr.refl _ _).alloc _
  replace hD := hD.nil fo
  replace K := K.fr fo (fun _ _ e => e)
  replace G := G.trans (fo.mono (fun _ _ e => e.elim) : Fr j.S _ _)
  replace hsz := Nat.le_trans hsz fo.size
  clear fo
  refine (ok_answer j (ex5 ⟨sa, sn, sc⟩ ⟨sma, smn, smc⟩ ⟨ta, tn, tc⟩ ⟨tma, tmn, tmc⟩ ⟨ua, un, uc⟩ ⟨uma, umn, umc⟩) 20 1 true _ ⟨some ⟨p8 + 1, 0, none⟩, 1, 1⟩ [9] hD (by unfold U64; omega) hrv).mono ?_
  rintro e w9 ⟨va, vo, rfl, hr, hd, fo⟩
  rw [(ex6_told ⟨sa, sn, sc⟩ ⟨sma, smn, smc⟩ ⟨ta, tn, tc⟩ ⟨tma, tmn, tmc⟩ ⟨ua, un, uc⟩ ⟨uma, umn, umc⟩).1] at hr
  rw [(ex6_told ⟨sa, sn, sc⟩ ⟨sma, smn, smc⟩ ⟨ta, tn, tc⟩ ⟨tma, tmn, tmc⟩ ⟨ua, un, uc⟩ ⟨uma, umn, umc⟩).2]
  replace hD : Dok w9 j (ex6 ⟨sa, sn, sc⟩ ⟨sma, smn, smc⟩ ⟨ta, tn, tc⟩ ⟨tma, tmn, tmc⟩ ⟨ua, un, uc⟩ ⟨uma, umn, umc⟩) := hd
  replace K := K.fr fo HB.out
  replace G := G.trans fo
  obtain ⟨ra, ro⟩ := hr
  simp only [List.length_nil, List.length_cons, Nat.zero_add] at ra ro
  obtain ⟨A9, c9, rfl⟩ := own_len ra
  obtain ⟨O9, d9, rfl⟩ := own_len ro
  replace hsz := Nat.le_trans hsz fo.size
  clear ra ro hd fo
  have fo : Fr Nil w9 (w9.alloc (.cells #[.slice A9 0 c9, .slice O9 0 d9] 62)) := (Fr.refl _ _).alloc _
  have hp := Blk.new w9 (.cells #[.slice A9 0 c9, .slice O9 0 d9] 62)
  have hpl := hp.lt
  obtain ⟨p9, hpe⟩ : ∃ p, p = w9.heap.size := ⟨_, rfl⟩
  have hpg : B0 ≤ p9 := by rw [hpe]; exact hsz
  rw [← hpe] at hp hpl
  replace K := ((K.fr fo (fun _ _ e => e)).cons hpg hpl ((hp.cell 1).trans (show _ = some (.slice O9 0 d9) from rfl))).cons hpg hpl ((hp.cell 0).trans (show _ = some (.slice A9 0 c9) from rfl))
  replace hD := hD.nil fo
  replace G := G.trans (fo.mono (fun _ _ e => e.elim) : Fr j.S _ _)
  replace hsz := Nat.le_trans hsz fo.size
  have HPe := Lib.hid hpe
  have HWs : Hid ((w9.alloc (.cells #[.slice A9 0 c9, .slice O9 0 d9] 62)).heap.size = p9 + 1) := Lib.hid (by rw [World.size_alloc, hpe])
  clear fo hp hpl hpg hpe
  go_wp2_with fail
  rw [← HPe.out]
  generalize w9.alloc (.cells #[.slice A9 0 c9, .slice O9 0 d9] 62) = w9b at *
  clear HPe
  have HWz := HWs
  clear HWs
  refine (ok_snap j (ex6 ⟨sa, sn, sc⟩ ⟨sma, smn, smc⟩ ⟨ta, tn, tc⟩ ⟨tma, tmn, tmc⟩ ⟨ua, un, uc⟩ ⟨uma, umn, umc⟩) 20 _ hD (by unfold U64; omega)).mono ?_
  rintro e w10 ⟨n0, n1, n2, n3, n4, a, b, c, d, e5, half, al, hs, hc, -, rfl, -, fo⟩
  have he := ex6_snap ⟨sa, sn, sc⟩ ⟨sma, smn, smc⟩ ⟨ta, tn, tc⟩ ⟨tma, tmn, tmc⟩ ⟨ua, un, uc⟩ ⟨uma, umn, umc⟩
  rw [he.1] at hs
  rw [he.2] at hc
  simp only [List.cons.injEq, and_true] at hs hc
  obtain ⟨rfl, rfl, rfl, rfl, rfl⟩ := hs
  obtain ⟨rfl, rfl, rfl, rfl, rfl⟩ := hc
  replace K := K.fr fo HB.out
  replace G := G.trans fo
  replace hsz := Nat.le_trans hsz fo.size
  have hp := Blk.new w10 (.cells #[.int .i64 0, .int .i64 0, .int .i64 0, .int .i64 0, .int .i64 1, .int .u64 0, .int .u64 0, .int .u64 2, .int .u64 0, .int .u64 0, .int .u64 half, .int .u64 al] 58)
  have G2 := G.alloc (.cells #[.int .i64 0, .int .i64 0, .int .i64 0, .int .i64 0, .int .i64 1, .int .u64 0, .int .u64 0, .int .u64 2, .int .u64 0, .int .u64 0, .int .u64 half, .int .u64 al] 58)
  have K2 := K.fr ((Fr.refl Nil w10).alloc (.cells #[.int .i64 0, .int .i64 0, .int .i64 0, .int .i64 0, .int .i64 1, .int .u64 0, .int .u64 0, .int .u64 2, .int .u64 0, .int .u64 0, .int .u64 half, .int .u64 al] 58)) (fun _ _ e => e)
  have z2a := K2.get (b := p2) (o := 0) (v := .slice (some ⟨g2, 0, none⟩) 1 c2) (by simp)
  have z2b := K2.get (b := p2) (o := 1) (v := .slice O2 0 d2) (by simp)
  have z4a := K2.get (b := p4) (o := 0) (v := .slice A4 1 c4) (by simp)
  have z4b := K2.get (b := p4) (o := 1) (v := .slice O4 0 d4) (by simp)
  have z6a := K2.get (b := p6) (o := 0) (v := .slice A6 0 c6) (by simp)
  have z6b := K2.get (b := p6) (o := 1) (v := .slice (some ⟨h6, 0, none⟩) 1 d6) (by simp)
  have z7a := K2.get (b := p7) (o := 0) (v := .slice A7 0 c7) (by simp)
  have z7b := K2.get (b := p7) (o := 1) (v := .slice O7 1 d7) (by simp)
  have z8a := K2.get (b := p8) (o := 0) (v := .slice A8 0 c8) (by simp)
  have z8b := K2.get (b := p8) (o := 1) (v := .slice O8 1 d8) (by simp)
  have z9a := K2.get (b := p9) (o := 0) (v := .slice A9 0 c9) (by simp)
  have z9b := K2.get (b := p9) (o := 1) (v := .slice O9 0 d9) (by simp)
  have y0 := K2.get (b := g2) (o := 0) (v := .bool true) (by simp)
  have y1 := K2.get (b := g2) (o := 1) (v := .int .i64 1) (by simp)
  have y2 := K2.get (b := g2) (o := 2) (v := .int .u64 10) (by simp)
  have y3 := K2.get (b := h6) (o := 2) (v := .int .i64 3) (by simp)
  have x0 := (hp.cell 0).trans (show _ = some (.int .i64 0) from rfl)
  have x3 := (hp.cell 3).trans (show _ = some (.int .i64 0) from rfl)
  have x5 := (hp.cell 5).trans (show _ = some (.int .u64 0) from rfl)
  have x6 := (hp.cell 6).trans (show _ = some (.int .u64 0) from rfl)
  have x7 := (hp.cell 7).trans (show _ = some (.int .u64 2) from rfl)
  have x8 := (hp.cell 8).trans (show _ = some (.int .u64 0) from rfl)
  have x9 := (hp.cell 9).trans (show _ = some (.int .u64 0) from rfl)
  have HG := Lib.hid G2
  clear K K2 G G2 hp hsz hD fo he HB HX
  go_wp2_with fail
  go_ret
  exact ⟨rfl, HG.out.mono (fun k hk e => absurd (HJn.out k e) (by omega))⟩

end Go.Proofs.Ythnaieeaominjaa
