/-
  DepNobody.
-/
import Derived.Test.YthnaieeaominjaaNobody
import Derived.Test.YthnaieeaominjaaAwake
namespace Go.Proofs.Ythnaieeaominjaa
open Go.RowKit
set_option linter.unusedVariables false
set_option linter.unusedSimpArgs false

theorem snap_eq (w : World) : (Op.equalIn 10000 58 (.agg #[.int .i64 0, .int .i64 0, .int .i64 0, .int .i64 0, .int .i64 0, .int .u64 0, .int .u64 0, .int .u64 0, .int .u64 0, .int .u64 0, .int .u64 0, .int .u64 0]) (.agg #[.int .i64 0, .int .i64 0, .int .i64 0, .int .i64 0, .int .i64 0, .int .u64 0, .int .u64 0, .int .u64 0, .int .u64 0, .int .u64 0, .int .u64 0, .int .u64 0])).run Try.prog w = .ok true w := by kernel_rfl
section
variable (c : Cf) (now id : Int)
theorem new_pick : (Dp.new c).pickRes now = (⟨[], [], now⟩, Dp.new c, 3) := by
  have h1 : (Dp.new c).bulk.pick.2.1 = false := by unfold Bulk.pick; split <;> rfl
  have h2 : (Dp.new c).bulk.pick.2.2 = (Dp.new c).bulk := by unfold Bulk.pick; split <;> rfl
  unfold Dp.pickRes
  rw [if_neg (by rw [h1]; simp)]
  unfold Dp.pickOf
  rw [h2]
theorem new_answer : (Dp.new c).answerOf now id true [] = (⟨[], [], now⟩, Dp.new c, 3) := by
  have h : ((Dp.new c).bulk.free id).1 = false := rfl
  unfold Dp.answerOf
  rw [if_pos h]
  rfl
theorem new_fallback : (Dp.new c).fallbackOf now id 1 true [] = (⟨[], [], now⟩, Dp.new c, 3) := by
  have h : ((Dp.new c).falls.free (id, 1)).1 = false := rfl
  unfold Dp.fallbackOf
  rw [if_pos h]
  rfl
theorem new_offer (a m : Sl) : (Dp.new c).offerOf now a m [] [] = (⟨[], [], now⟩, Dp.new c, 1) := by
  unfold Dp.offerOf
  rw [if_pos (show leadOf [] < 1 by decide)]
theorem new_knows : (Dp.new c).knows id = false := rfl
theorem new_snap : (Dp.new c).snap now = [0, 0, 0, 0, 1] := rfl
end
theorem rd_nils (w : World) (M : Nat → Prop) (s : Nat) (hs : s < 3) (h0 : 0 < s) : Rd w M ⟨none, 0, 0⟩ s 0 [] := ⟨rfl, Nat.le_refl _, by omega, by simp, .inl rfl⟩
theorem fld_outs (w : World) : (Instr.field 62 (.agg #[.slice none 0 0, .slice none 0 0]) 1).run Try.prog w = .ok (.slice none 0 0) w := by kernel_rfl
theorem fld_calls (a b c d e half al : Int) (w : World) : (Instr.field 58 (.agg #[.int .i64 0, .int .i64 0, .int .i64 0, .int .i64 0, .int .i64 1, .int .u64 a, .int .u64 b, .int .u64 c, .int .u64 d, .int .u64 e, .int .u64 half, .int .u64 al]) 3).run Try.prog w = .ok (.int .i64 0) w := by kernel_rfl

def NobPost (w : World) (e : Ending) (w' : World) : Prop := e = .returned (.bool true) ∧ Fr Nil w w'

set_option maxRecDepth 100000 in
set_option maxHeartbeats 6400000 in
theorem nobody_bad (c : Cf) (now id : Int) (w : World) (ht : c.Typed) (hn : U64 now) (hg : c.good = false) : Calls Try.prog 4 #[c.val, .int .i64 id, .int .u64 now] w (NobPost w) := by
  unfold NobPost
  have HSn := snap_eq
  have HFo := fld_outs
  have HFc := fld_calls
  have HNew := fun W => Lib.hid (dep_new_bad c W hg)
  have HChk := fun W => Lib.hid (ref_check c W ht)
  have HG := Lib.hid hg
  clear hg ht
  have hb := Blk.new w (.cells c.cells 24)
  have G : Fr Nil w (w.alloc (.cells c.cells 24)) := (Fr.refl _ _).alloc _
  have hs := Lib.hid (cfS hb)
  unfold Cf.val at HNew HChk ⊢
  unfold Cf.cells at hb G HNew HChk ⊢
  have hbn := Lib.hid (Nat.lt_succ_self w.heap.size)
  have hb' := Lib.hid hb
  clear hb
  have G' := Lib.hid G
  clear G
  go_enter Try.func4, Try.ntmps4
  go_wp2_with fail
  have hb := hb'.out
  have G := G'.out
  clear hb' G'
  refine (law_awake _).mono ?_
  rintro e w1 ⟨rfl, fo⟩
  replace hb := hb.fr fo (fun x => x)
  replace hs := Lib.hid (cfS hb)
  replace G := G.trans fo
  clear fo
  go_wp2_with fail
  refine (law_one 1 1 _).mono ?_
  rintro e w2 ⟨⟨oa, on, oc⟩, ⟨oma, omn, omc⟩, rfl, ha, hm, fo⟩
  replace hb := hb.fr fo (fun x => x)
  replace hs := Lib.hid (cfS hb)
  replace G := G.trans fo
  clear fo ha
  unfold Sl.val
  simp only
  have HM := Lib.hid hm
  clear hm
  go_wp2_with fail
  refine (nil_offer now _ ⟨oa, on, oc⟩ ⟨oma, omn, omc⟩ [(1, 0)] _ HM.out).mono ?_
  rintro e w3 ⟨rfl, fo⟩
  replace hb := hb.fr fo (fun x => x)
  replace hs := Lib.hid (cfS hb)
  replace G := G.trans fo
  clear fo
  clear HM
  have fo : Fr Nil w3 (w3.alloc (.cells #[.slice none 0 0, .slice none 0 0] 62)) := (Fr.refl _ _).alloc _
  replace hb := hb.fr fo (fun x => x)
  replace hs := Lib.hid (cfS hb)
  replace G := G.trans fo
  clear fo
  go_wp2_with fail
  generalize w3.alloc (.cells #[.slice none 0 0, .slice none 0 0] 62) = w3b at *
  refine (nil_pick now _).mono ?_
  rintro e w4 ⟨rfl, fo⟩
  replace hb := hb.fr fo (fun x => x)
  replace hs := Lib.hid (cfS hb)
  replace G := G.trans fo
  clear fo
  have fo : Fr Nil w4 (w4.alloc (.cells #[.slice none 0 0, .slice none 0 0] 62)) := (Fr.refl _ _).alloc _
  replace hb := hb.fr fo (fun x => x)
  replace hs := Lib.hid (cfS hb)
  replace G := G.trans fo
  clear fo
  go_wp2_with fail
  generalize w4.alloc (.cells #[.slice none 0 0, .slice none 0 0] 62) = w4b at *
  refine (nil_answer now id true _ _).mono ?_
  rintro e w5 ⟨rfl, fo⟩
  replace hb := hb.fr fo (fun x => x)
  replace hs := Lib.hid (cfS hb)
  replace G := G.trans fo
  clear fo
  have fo : Fr Nil w5 (w5.alloc (.cells #[.slice none 0 0, .slice none 0 0] 62)) := (Fr.refl _ _).alloc _
  replace hb := hb.fr fo (fun x => x)
  replace hs := Lib.hid (cfS hb)
  replace G := G.trans fo
  clear fo
  go_wp2_with fail
  generalize w5.alloc (.cells #[.slice none 0 0, .slice none 0 0] 62) = w5b at *
  refine (nil_fallback now id 1 true _ _).mono ?_
  rintro e w6 ⟨rfl, fo⟩
  replace hb := hb.fr fo (fun x => x)
  replace hs := Lib.hid (cfS hb)
  replace G := G.trans fo
  clear fo
  have fo : Fr Nil w6 (w6.alloc (.cells #[.slice none 0 0, .slice none 0 0] 62)) := (Fr.refl _ _).alloc _
  replace hb := hb.fr fo (fun x => x)
  replace hs := Lib.hid (cfS hb)
  replace G := G.trans fo
  clear fo
  go_wp2_with fail
  generalize w6.alloc (.cells #[.slice none 0 0, .slice none 0 0] 62) = w6b at *
  refine (nil_late now id _).mono ?_
  rintro e w7 ⟨rfl, fo⟩
  replace hb := hb.fr fo (fun x => x)
  replace hs := Lib.hid (cfS hb)
  replace G := G.trans fo
  clear fo
  go_wp2_with fail
  refine (nil_knows id _).mono ?_
  rintro e w8 ⟨rfl, fo⟩
  replace hb := hb.fr fo (fun x => x)
  replace hs := Lib.hid (cfS hb)
  replace G := G.trans fo
  clear fo
  go_wp2_with fail
  refine (nil_snap now _).mono ?_
  rintro e w9 ⟨rfl, fo⟩
  replace hb := hb.fr fo (fun x => x)
  replace hs := Lib.hid (cfS hb)
  replace G := G.trans fo
  clear fo
  have hk := hs.out
  unfold CfS at hk
  obtain ⟨k0, k1, k2, k3, k4, k5, k6, k7, k8, k9, k10, k11, k12, k13, k14, k15⟩ := hk
  go_wp2_with fail
  refine ((HNew _).out).mono ?_
  rintro e w10 ⟨rfl, fo⟩
  replace hb := hb.fr fo (fun x => x)
  replace hs := Lib.hid (cfS hb)
  replace G := G.trans fo
  clear fo
  clear k0 k1 k2 k3 k4 k5 k6 k7 k8 k9 k10 k11 k12 k13 k14 k15
  have hk := hs.out
  unfold CfS at hk
  obtain ⟨k0, k1, k2, k3, k4, k5, k6, k7, k8, k9, k10, k11, k12, k13, k14, k15⟩ := hk
  go_wp2_with fail
  refine (HChk _).out.mono ?_
  rintro e w11 ⟨n, rfl, hn0, hn16, hni, fo⟩
  replace G := G.trans fo
  have hnp : 0 < n := by
    rcases Int.lt_or_eq_of_le hn0 with h | h
    · exact h
    · exact absurd (hni.1 h.symm) (by rw [HG.out]; simp)
  have hnd : decide (0 < n) = true := by simpa using hnp
  have GF := Lib.hid G
  clear k0 k1 k2 k3 k4 k5 k6 k7 k8 k9 k10 k11 k12 k13 k14 k15
  clear G fo hni hn0 hn16 hb hs
  go_wp2_with fail
  go_ret
  exact ⟨rfl, GF.out⟩

set_option maxRecDepth 100000 in
set_option maxHeartbeats 6400000 in
theorem nobody_good (c : Cf) (now id : Int) (w : World) (ht : c.Typed) (hn : U64 now) (hg : c.good = true) : Calls Try.prog 4 #[c.val, .int .i64 id, .int .u64 now] w (NobPost w) := by
  unfold NobPost
  have HSn := snap_eq
  have HFo := fld_outs
  have HFc := fld_calls
  have HNew := fun W => Lib.hid (ok_new W c (fun _ => False) ht hg)
  have HChk := fun W => Lib.hid (ref_check c W ht)
  have HG := Lib.hid hg
  clear hg ht
  have hb := Blk.new w (.cells c.cells 24)
  have G : Fr Nil w (w.alloc (.cells c.cells 24)) := (Fr.refl _ _).alloc _
  have hs := Lib.hid (cfS hb)
  unfold Cf.val at HNew HChk ⊢
  unfold Cf.cells at hb G HNew HChk ⊢
  have hbn := Lib.hid (Nat.lt_succ_self w.heap.size)
  have hb' := Lib.hid hb
  clear hb
  have G' := Lib.hid G
  clear G
  go_enter Try.func4, Try.ntmps4
  go_wp2_with fail
  have hb := hb'.out
  have G := G'.out
  clear hb' G'
  refine (law_awake _).mono ?_
  rintro e w1 ⟨rfl, fo⟩
  replace hb := hb.fr fo (fun x => x)
  replace hs := Lib.hid (cfS hb)
  replace G := G.trans fo
  clear fo
  go_wp2_with fail
  refine (law_one 1 1 _).mono ?_
  rintro e w2 ⟨⟨oa, on, oc⟩, ⟨oma, omn, omc⟩, rfl, ha, hm, fo⟩
  replace hb := hb.fr fo (fun x => x)
  replace hs := Lib.hid (cfS hb)
  replace G := G.trans fo
  clear fo ha
  unfold Sl.val
  simp only
  have HM := Lib.hid hm
  clear hm
  go_wp2_with fail
  refine (nil_offer now _ ⟨oa, on, oc⟩ ⟨oma, omn, omc⟩ [(1, 0)] _ HM.out).mono ?_
  rintro e w3 ⟨rfl, fo⟩
  replace hb := hb.fr fo (fun x => x)
  replace hs := Lib.hid (cfS hb)
  replace G := G.trans fo
  clear fo
  clear HM
  have fo : Fr Nil w3 (w3.alloc (.cells #[.slice none 0 0, .slice none 0 0] 62)) := (Fr.refl _ _).alloc _
  replace hb := hb.fr fo (fun x => x)
  replace hs := Lib.hid (cfS hb)
  replace G := G.trans fo
  clear fo
  go_wp2_with fail
  generalize w3.alloc (.cells #[.slice none 0 0, .slice none 0 0] 62) = w3b at *
  refine (nil_pick now _).mono ?_
  rintro e w4 ⟨rfl, fo⟩
  replace hb := hb.fr fo (fun x => x)
  replace hs := Lib.hid (cfS hb)
  replace G := G.trans fo
  clear fo
  have fo : Fr Nil w4 (w4.alloc (.cells #[.slice none 0 0, .slice none 0 0] 62)) := (Fr.refl _ _).alloc _
  replace hb := hb.fr fo (fun x => x)
  replace hs := Lib.hid (cfS hb)
  replace G := G.trans fo
  clear fo
  go_wp2_with fail
  generalize w4.alloc (.cells #[.slice none 0 0, .slice none 0 0] 62) = w4b at *
  refine (nil_answer now id true _ _).mono ?_
  rintro e w5 ⟨rfl, fo⟩
  replace hb := hb.fr fo (fun x => x)
  replace hs := Lib.hid (cfS hb)
  replace G := G.trans fo
  clear fo
  have fo : Fr Nil w5 (w5.alloc (.cells #[.slice none 0 0, .slice none 0 0] 62)) := (Fr.refl _ _).alloc _
  replace hb := hb.fr fo (fun x => x)
  replace hs := Lib.hid (cfS hb)
  replace G := G.trans fo
  clear fo
  go_wp2_with fail
  generalize w5.alloc (.cells #[.slice none 0 0, .slice none 0 0] 62) = w5b at *
  refine (nil_fallback now id 1 true _ _).mono ?_
  rintro e w6 ⟨rfl, fo⟩
  replace hb := hb.fr fo (fun x => x)
  replace hs := Lib.hid (cfS hb)
  replace G := G.trans fo
  clear fo
  have fo : Fr Nil w6 (w6.alloc (.cells #[.slice none 0 0, .slice none 0 0] 62)) := (Fr.refl _ _).alloc _
  replace hb := hb.fr fo (fun x => x)
  replace hs := Lib.hid (cfS hb)
  replace G := G.trans fo
  clear fo
  go_wp2_with fail
  generalize w6.alloc (.cells #[.slice none 0 0, .slice none 0 0] 62) = w6b at *
  refine (nil_late now id _).mono ?_
  rintro e w7 ⟨rfl, fo⟩
  replace hb := hb.fr fo (fun x => x)
  replace hs := Lib.hid (cfS hb)
  replace G := G.trans fo
  clear fo
  go_wp2_with fail
  refine (nil_knows id _).mono ?_
  rintro e w8 ⟨rfl, fo⟩
  replace hb := hb.fr fo (fun x => x)
  replace hs := Lib.hid (cfS hb)
  replace G := G.trans fo
  clear fo
  go_wp2_with fail
  refine (nil_snap now _).mono ?_
  rintro e w9 ⟨rfl, fo⟩
  replace hb := hb.fr fo (fun x => x)
  replace hs := Lib.hid (cfS hb)
  replace G := G.trans fo
  clear fo
  have hk := hs.out
  unfold CfS at hk
  obtain ⟨k0, k1, k2, k3, k4, k5, k6, k7, k8, k9, k10, k11, k12, k13, k14, k15⟩ := hk
  go_wp2_with fail
  refine (HNew _).out.mono ?_
  rintro e w10 ⟨j, hjx, rfl, hD, hjn, fo⟩
  clear k0 k1 k2 k3 k4 k5 k6 k7 k8 k9 k10 k11 k12 k13 k14 k15
  have hjw := Lib.hid (show ∀ k, j.S k → w.heap.size + 1 ≤ k from fun k hk => Nat.le_trans (Nat.succ_le_of_lt hb.lt) (hjn k hk))
  replace hb := hb.fr fo (fun x => x)
  replace hs := Lib.hid (cfS hb)
  replace G := G.trans fo
  clear fo hjx hjn
  have G0 : Fr Nil w _ := G
  have hD0 := hD
  clear hD
  have hD := hD0
  clear hD0
  have G := G0
  clear G0
  have HN := Lib.hid hn
  clear hn
  go_wp2_with fail
  refine (ok_pick j (Dp.new c) now _ hD HN.out).mono ?_
  rintro e w11 ⟨va, vo, rfl, hr, hd, fo⟩
  rw [new_pick c now] at hr hd
  dsimp only at hr hd
  rw [new_pick c now]
  dsimp only
  obtain ⟨ra, ro⟩ := hr
  simp only [List.length_nil] at ra ro
  obtain ⟨A11, c11, rfl⟩ := own_len ra
  obtain ⟨O11, d11, rfl⟩ := own_len ro
  replace hD := hd
  replace hb := hb.fr fo (fun x => absurd (hjw.out _ x) (by omega))
  replace hs := Lib.hid (cfS hb)
  replace G := G.step fo (fun k hk e => absurd (hjw.out _ e) (by omega))
  clear hd ra ro fo
  have fo : Fr Nil w11 (w11.alloc (.cells #[.slice A11 0 c11, .slice O11 0 d11] 62)) := (Fr.refl _ _).alloc _
  replace hb := hb.fr fo (fun x => x)
  replace hs := Lib.hid (cfS hb)
  replace G := G.trans fo
  replace hD := hD.nil fo
  clear fo
  go_wp2_with fail
  generalize w11.alloc (.cells #[.slice A11 0 c11, .slice O11 0 d11] 62) = w11b at *
  refine (ok_answer j (Dp.new c) now id true _ ⟨none, 0, 0⟩ [] hD HN.out (rd_nils _ _ 1 (by omega) (by omega))).mono ?_
  rintro e w12 ⟨va, vo, rfl, hr, hd, fo⟩
  rw [new_answer c now id] at hr hd
  dsimp only at hr hd
  rw [new_answer c now id]
  dsimp only
  obtain ⟨ra, ro⟩ := hr
  simp only [List.length_nil] at ra ro
  obtain ⟨A12, c12, rfl⟩ := own_len ra
  obtain ⟨O12, d12, rfl⟩ := own_len ro
  replace hD := hd
  replace hb := hb.fr fo (fun x => absurd (hjw.out _ x) (by omega))
  replace hs := Lib.hid (cfS hb)
  replace G := G.step fo (fun k hk e => absurd (hjw.out _ e) (by omega))
  clear hd ra ro fo
  have fo : Fr Nil w12 (w12.alloc (.cells #[.slice A12 0 c12, .slice O12 0 d12] 62)) := (Fr.refl _ _).alloc _
  replace hb := hb.fr fo (fun x => x)
  replace hs := Lib.hid (cfS hb)
  replace G := G.trans fo
  replace hD := hD.nil fo
  clear fo
  go_wp2_with fail
  generalize w12.alloc (.cells #[.slice A12 0 c12, .slice O12 0 d12] 62) = w12b at *
  refine (ok_fallback j (Dp.new c) now id 1 true _ ⟨none, 0, 0⟩ [] hD HN.out (rd_nils _ _ 1 (by omega) (by omega))).mono ?_
  rintro e w13 ⟨va, vo, rfl, hr, hd, fo⟩
  rw [new_fallback c now id] at hr hd
  dsimp only at hr hd
  rw [new_fallback c now id]
  dsimp only
  obtain ⟨ra, ro⟩ := hr
  simp only [List.length_nil] at ra ro
  obtain ⟨A13, c13, rfl⟩ := own_len ra
  obtain ⟨O13, d13, rfl⟩ := own_len ro
  replace hD := hd
  replace hb := hb.fr fo (fun x => absurd (hjw.out _ x) (by omega))
  replace hs := Lib.hid (cfS hb)
  replace G := G.step fo (fun k hk e => absurd (hjw.out _ e) (by omega))
  clear hd ra ro fo
  have fo : Fr Nil w13 (w13.alloc (.cells #[.slice A13 0 c13, .slice O13 0 d13] 62)) := (Fr.refl _ _).alloc _
  replace hb := hb.fr fo (fun x => x)
  replace hs := Lib.hid (cfS hb)
  replace G := G.trans fo
  replace hD := hD.nil fo
  clear fo
  go_wp2_with fail
  generalize w13.alloc (.cells #[.slice A13 0 c13, .slice O13 0 d13] 62) = w13b at *
  refine (ok_offer j (Dp.new c) now _ ⟨none, 0, 0⟩ ⟨none, 0, 0⟩ [] [] hD HN.out (rd_nils _ _ 1 (by omega) (by omega)) (rd_nils _ _ 2 (by omega) (by omega))).mono ?_
  rintro e w14 ⟨va, vo, rfl, hr, hd, fo⟩
  rw [new_offer c now ⟨none, 0, 0⟩ ⟨none, 0, 0⟩] at hr hd
  dsimp only at hr hd
  rw [new_offer c now ⟨none, 0, 0⟩ ⟨none, 0, 0⟩]
  dsimp only
  obtain ⟨ra, ro⟩ := hr
  simp only [List.length_nil] at ra ro
  obtain ⟨A14, c14, rfl⟩ := own_len ra
  obtain ⟨O14, d14, rfl⟩ := own_len ro
  replace hD := hd
  replace hb := hb.fr fo (fun x => absurd (hjw.out _ x) (by omega))
  replace hs := Lib.hid (cfS hb)
  replace G := G.step fo (fun k hk e => absurd (hjw.out _ e) (by omega))
  clear hd ra ro fo
  have fo : Fr Nil w14 (w14.alloc (.cells #[.slice A14 0 c14, .slice O14 0 d14] 62)) := (Fr.refl _ _).alloc _
  replace hb := hb.fr fo (fun x => x)
  replace hs := Lib.hid (cfS hb)
  replace G := G.trans fo
  replace hD := hD.nil fo
  clear fo
  have hk := hs.out
  unfold CfS at hk
  obtain ⟨k0, k1, k2, k3, k4, k5, k6, k7, k8, k9, k10, k11, k12, k13, k14, k15⟩ := hk
  go_wp2_with fail
  generalize w14.alloc (.cells #[.slice A14 0 c14, .slice O14 0 d14] 62) = w14b at *
  refine (HChk _).out.mono ?_
  rintro e w15 ⟨n, rfl, -, -, hni, fo⟩
  obtain rfl : n = 0 := hni.2 HG.out
  clear k0 k1 k2 k3 k4 k5 k6 k7 k8 k9 k10 k11 k12 k13 k14 k15
  replace hb := hb.fr fo (fun x => x)
  replace hs := Lib.hid (cfS hb)
  replace G := G.trans fo
  replace hD := hD.nil fo
  clear fo hni
  go_wp2_with fail
  refine (ok_knows j (Dp.new c) id _ hD).mono ?_
  rintro e w30 ⟨rfl, fo⟩
  replace G := G.trans fo
  replace hD := hD.nil fo
  rw [new_knows]
  clear fo hb hs
  go_wp2_with fail
  refine (ok_snap j (Dp.new c) now _ hD HN.out).mono ?_
  rintro e w31 ⟨n0, n1, n2, n3, n4, a, b, c2, d, e5, half, al, hsn, -, -, rfl, -, fo⟩
  rw [new_snap] at hsn
  simp only [List.cons.injEq, and_true] at hsn
  obtain ⟨rfl, rfl, rfl, rfl, rfl⟩ := hsn
  replace G := G.step fo (fun k hk e => absurd (hjw.out _ e) (by omega))
  have GF := Lib.hid G
  clear G fo hD
  go_wp2_with fail
  go_ret
  exact ⟨rfl, GF.out⟩

theorem law_nobody (c : Cf) (now id : Int) (w : World) (ht : c.Typed) (hn : U64 now) : Calls Try.prog 4 #[c.val, .int .i64 id, .int .u64 now] w (NobPost w) := by
  cases hg : c.good
  · exact nobody_bad c now id w ht hn hg
  · exact nobody_good c now id w ht hn hg

end Go.Proofs.Ythnaieeaominjaa
