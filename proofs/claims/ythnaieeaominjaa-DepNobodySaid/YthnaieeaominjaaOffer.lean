/-
  Package dep: offer.
-/
import Derived.Test.YthnaieeaominjaaFall
namespace Go.Proofs.Ythnaieeaominjaa
open Go.RowKit
set_option linter.unusedVariables false
set_option linter.unusedSimpArgs false

def Dp.asked (D : Dp) (now : Int) : Dp := { D with brk := (D.brk.ask now).2 }
def Dp.shorted (D : Dp) (now : Int) : Dp := { D.asked now with win := D.win.add now 4 1 }
/-- How a call is let in, the others that run then. -/
def Dp.how (D : Dp) (id : Int) : Int := (D.bulk.admit id).1
def Dp.others (D : Dp) (id : Int) : List Int := (D.bulk.admit id).2.1
def Dp.admitted (D : Dp) (now id : Int) : Dp := { D.asked now with bulk := (D.bulk.admit id).2.2 }
/-- A call that is let in. -/
def Dp.letIn (D : Dp) (now id : Int) (c : Cl) : Dp :=
  let D3 := if (D.brk.ask now).1 = 2 then { D.admitted now id with probe := id } else D.admitted now id
  (if D.how id = 1 then (D3.keep c).runs [id] else D3.keep c).runs (D.others id)
/-- A call that is refused. -/
def Dp.refused (D : Dp) (now id : Int) : Dp :=
  Dp.count (if (D.brk.ask now).1 = 2 then { D.admitted now id with brk := (D.brk.ask now).2.back.2 } else D.admitted now id) now id 3
def Dp.offer (D : Dp) (E : Deed) (id : Int) (c : Cl) : Deed × Dp :=
  if (D.brk.ask E.now).1 = 3 then (E.fall (D.shorted E.now) c 4, (D.shorted E.now).fall c 4)
  else if D.how id = 3 then (E.fall (D.refused E.now id) c 3, (D.refused E.now id).fall c 3)
  else ({ E with acts := E.acts ++ [⟨true, id, sadd E.now D.cf.tmo⟩] }, D.letIn E.now id c)

theorem DeedAt.own_old {S : Nat → Prop} {w w' : World} {x d k : Nat} {E : Deed} (h : DeedAt w x d E) (f : Fr S w w') (hS : ¬ S x) (hk : DeedB w' x k) : k < w.heap.size := by
  have hlt := h.lt
  obtain ⟨va, vo, hb, hra, hro, -⟩ := h.rows
  have hb1 := hb.fr f hS
  rcases hk with e | ⟨j, v, rfl | rfl, hc, he⟩
  · omega
  · rw [hb1.cell] at hc
    obtain rfl : va = v := by simpa [deedCells] using hc
    exact (hra.lt _ he).2
  · rw [hb1.cell] at hc
    obtain rfl : vo = v := by simpa [deedCells] using hc
    exact (hro.lt _ he).2
theorem one_rdS {w : World} {S : Nat → Prop} {n : Int} (hS : ¬ S w.heap.size) : Rd (w.alloc (.cells #[.int .i64 n] 3)) S ⟨some ⟨w.heap.size, 0, none⟩, 1, 1⟩ 1 1 (ints [n]) :=
  ⟨rfl, Nat.le_refl _, by omega, rfl, .inr ⟨w.heap.size, 0, rfl, hS, by simp, fun j v hj => by
    rw [(Blk.new w _).cell, Nat.zero_add]; simpa [ints] using hj⟩⟩

set_option maxRecDepth 100000 in
set_option maxHeartbeats 3200000 in
theorem deed_offer_short (x : Nat) (i : DepIds) (E : Deed) (D : Dp) (id : Int) (c : Cl) (w : World) (h : XAt w x i E D) (hc : c.At w i.M) (ha : E.acts.length ≤ 1000) (hn : E.outs.length ≤ 1000000) (h3 : (D.brk.ask E.now).1 = 3) :
    Calls Try.prog 39 #[.pointer (some ⟨x, 0, none⟩), .int .i64 id, c.r.val] w (XPost w x i (.tuple #[]) (D.offer E id c).1 (D.offer E id c).2) := by
  have hxl := h.deed.lt
  have hnp : ¬ i.S w.heap.size := fun e => by have := h.below _ e; omega
  have HP := Lib.hid (show D.offer E id c = (E.fall (D.shorted E.now) c 4, (D.shorted E.now).fall c 4) by unfold Dp.offer; rw [if_pos h3])
  generalize D.offer E id c = PP at *
  have g0 : Fr Nil w ((w.alloc (.cells c.r.cells 116)).drewN 1) := ((Fr.refl _ _).alloc _).drewN 1
  have hb0 := (Blk.new w (.cells c.r.cells 116)).drewN 1
  have hx0 := h.nil g0
  have hs0 : BaseS x i E.now D.cf D.probe _ := hx0.baseS
  have HA := brk_ask i.brk D.brk E.now _ hx0.dep.brk
  rw [h3] at HA
  have HA2 := Lib.hid HA
  have HX := Lib.hid h
  have HX0 := Lib.hid hx0
  have HB0 := Lib.hid hb0
  have HC := Lib.hid hc
  have HN := Lib.hid h.deed.now
  unfold CallR.val Sl.val
  unfold CallR.cells Sl.val at *
  clear h hc HA hx0 hb0 h3
  go_enter Try.func39, Try.ntmps39
  go_wp2_with fail
  refine region_ord (BaseS x i E.now D.cf D.probe) [(true, 0), (true, 1), (true, 2), (true, 3), (true, 4), (true, 5), (true, 6), (true, 7), (true, 8), (true, 9), (true, 10), (false, 11), (false, 12)] (by kernel_rfl) (by kernel_rfl) (fun _ _ d _ _ h => by cases d <;> exact h) hs0 ?_
  simp only [opsAt, List.filterMap_cons, List.filterMap_nil, List.getElem?_toArray, List.getElem?_cons_zero, List.getElem?_cons_succ, Option.map_some]
  repeat ((refine seqS_take (v := ?_) rfl ?_ ?_); rotate_left; (focus (intro wS hS; unfold BaseS at hS; go_split_ands; go_simp; first | done | with_reducible rfl)); (simp only [Act.put, List.setIfInBounds_toArray, List.set_cons_zero, List.set_cons_succ]))
  refine seqS_more ?_
  go_wp2_with fail
  refine HA2.out.mono ?_
  rintro e w1 ⟨rfl, hb1, hf1⟩
  have h1 : XAt w1 x i E (D.asked E.now) := HX0.out.dep_on (HX0.out.dep.upd_brk hb1 hf1) (Only.inS (a := 1) (f := hf1))
  have F1 : Fr i.S w w1 := (g0.mono (fun _ _ e => e.elim)).trans (Only.inS (a := 1) (f := hf1))
  have hbx1 := HB0.out.fr (Only.inS (a := 1) (f := hf1)) hnp
  have hs1 : BaseS x i E.now D.cf D.probe w1 := h1.baseS
  have HW := window_add i.win D.win E.now 1 4 (w1.drewN 1) (h1.drewN 1).dep.win HN.out (by unfold U64; omega) (by omega)
  have HW2 := Lib.hid HW
  have H1 := Lib.hid h1
  clear hb1 hf1 HA2 HX0 HB0 g0 h1 HW hs0
  go_wp2_with fail
  refine Thn.mk ⟨hs1, ?_⟩
  refine seqS_last ?_
  go_wp2_with fail
  refine region_ord (BaseS x i E.now D.cf D.probe) [(true, 0), (true, 1), (true, 2), (true, 3), (true, 4), (true, 5), (true, 6), (true, 7), (true, 8), (true, 9), (true, 10), (false, 11)] (by kernel_rfl) (by kernel_rfl) (fun _ _ d _ _ h => by cases d <;> exact h) hs1 ?_
  simp only [opsAt, List.filterMap_cons, List.filterMap_nil, List.getElem?_toArray, List.getElem?_cons_zero, List.getElem?_cons_succ, Option.map_some]
  repeat ((refine seqS_take (v := ?_) rfl ?_ ?_); rotate_left; (focus (intro wS hS; unfold BaseS at hS; go_split_ands; go_simp; first | done | with_reducible rfl)); (simp only [Act.put, List.setIfInBounds_toArray, List.set_cons_zero, List.set_cons_succ]))
  refine seqS_last ?_
  go_wp2_with fail
  refine HW2.out.mono ?_
  rintro e w2 ⟨rfl, hg2, hf2⟩
  have h2 : XAt w2 x i E (D.shorted E.now) := (H1.out.drewN 1).dep_on ((H1.out.drewN 1).dep.upd_win hg2 hf2) (Only.inS (a := 8) (f := hf2))
  have F2 : Fr i.S w w2 := (F1.drewN 1).trans (Only.inS (a := 8) (f := hf2))
  have hbx2 := (hbx1.drewN 1).fr (Only.inS (a := 8) (f := hf2)) hnp
  have HF := Lib.hid (deed_fall x i E (D.shorted E.now) c 4 w2 h2 (HC.out.fr F2 (fun _ _ e => .inl e)) ha hn)
  unfold CallR.val Sl.val at HF
  have F2' := Lib.hid F2
  clear hg2 hf2 h2 F2 F1 H1 HW2 hs1 hbx1
  have p0 := hbx2.cell 0
  have q0 := hbx2.free 0
  have p1 := hbx2.cell 1
  have q1 := hbx2.free 1
  have p2 := hbx2.cell 2
  have q2 := hbx2.free 2
  have p3 := hbx2.cell 3
  have q3 := hbx2.free 3
  have p4 := hbx2.cell 4
  have q4 := hbx2.free 4
  have p5 := hbx2.cell 5
  have q5 := hbx2.free 5
  simp at p0 p1 p2 p3 p4 p5
  go_wp2_with fail
  refine HF.out.mono ?_
  rintro e w3 ⟨rfl, h3, F3⟩
  have H3 := Lib.hid h3
  have F3' := Lib.hid F3
  clear h3 F3 HF hbx2
  clear p0 p1 p2 p3 p4 p5 q0 q1 q2 q3 q4 q5
  go_wp2_with fail
  go_end0
  refine ⟨rfl, ?_, (F2'.out.depT (x := x)).trans F3'.out⟩
  rw [HP.out]
  exact H3.out

-- in: printed by gen/offer.py
set_option maxRecDepth 100000 in
set_option maxHeartbeats 6400000 in
theorem deed_offer_in (x : Nat) (i : DepIds) (E : Deed) (D : Dp) (id : Int) (c : Cl) (w : World) (h : XAt w x i E D) (hc : c.At w i.M) (ha : E.acts.length ≤ 1000) (h3 : (D.brk.ask E.now).1 ≠ 3) (hh : D.how id ≠ 3) :
    Calls Try.prog 39 #[.pointer (some ⟨x, 0, none⟩), .int .i64 id, c.r.val] w (XPost w x i (.tuple #[]) (D.offer E id c).1 (D.offer E id c).2) := by
  have hxl := h.deed.lt
  have hnp : ¬ i.S w.heap.size := fun e => by have := h.below _ e; omega
  have HP := Lib.hid (show D.offer E id c = ({ E with acts := E.acts ++ [⟨true, id, sadd E.now D.cf.tmo⟩] }, D.letIn E.now id c) by unfold Dp.offer; rw [if_neg h3, if_neg hh])
  have HL := Lib.hid (show D.letIn E.now id c = (if D.how id = 1 then ((if (D.brk.ask E.now).1 = 2 then { D.admitted E.now id with probe := id } else D.admitted E.now id).keep c).runs [id] else (if (D.brk.ask E.now).1 = 2 then { D.admitted E.now id with probe := id } else D.admitted E.now id).keep c).runs (D.others id) from rfl)
  generalize D.offer E id c = PP at *
  generalize D.letIn E.now id c = LL at *
  have g0 : Fr Nil w ((w.alloc (.cells c.r.cells 116)).drewN 1) := ((Fr.refl _ _).alloc _).drewN 1
  have hb0 := (Blk.new w (.cells c.r.cells 116)).drewN 1
  have hx0 := h.nil g0
  have hs0 : BaseS x i E.now D.cf D.probe _ := hx0.baseS
  have HA := brk_ask i.brk D.brk E.now _ hx0.dep.brk
  generalize htold : (D.brk.ask E.now).1 = told at *
  have hb3 : (told == 3) = false := by simpa using h3
  have HAd := fun W (hW : DepAt W i (D.asked E.now)) => Lib.hid (bulk_admit i.bulk D.bulk id W hW.bulk)
  have HHow := Lib.hid (show D.how id = (D.bulk.admit id).1 from rfl)
  have HOth := Lib.hid (show D.others id = (D.bulk.admit id).2.1 from rfl)
  have HAdm := Lib.hid (show D.admitted E.now id = { D.asked E.now with bulk := (D.bulk.admit id).2.2 } from rfl)
  generalize D.how id = how at *
  generalize D.others id = others at *
  rw [← HHow.out, ← HOth.out] at HAd
  have hbh : (how != 3) = true := by simpa using hh
  have HA2 := Lib.hid HA
  have HX := Lib.hid h
  have HX0 := Lib.hid hx0
  have HB0 := Lib.hid hb0
  have HC := Lib.hid hc
  have HN := Lib.hid h.deed.now
  have HTmo := Lib.hid h.dep.typed.tmo
  unfold CallR.val Sl.val
  unfold CallR.cells Sl.val at *
  clear h hc HA hx0 hb0 h3 htold hh HHow HOth
  go_enter Try.func39, Try.ntmps39
  go_wp2_with fail
  refine region_ord (BaseS x i E.now D.cf D.probe) [(true, 0), (true, 1), (true, 2), (true, 3), (true, 4), (true, 5), (true, 6), (true, 7), (true, 8), (true, 9), (true, 10), (false, 11), (false, 12)] (by kernel_rfl) (by kernel_rfl) (fun _ _ d _ _ h => by cases d <;> exact h) hs0 ?_
  simp only [opsAt, List.filterMap_cons, List.filterMap_nil, List.getElem?_toArray, List.getElem?_cons_zero, List.getElem?_cons_succ, Option.map_some]
  repeat ((refine seqS_take (v := ?_) rfl ?_ ?_); rotate_left; (focus (intro wS hS; unfold BaseS at hS; go_split_ands; go_simp; first | done | with_reducible rfl)); (simp only [Act.put, List.setIfInBounds_toArray, List.set_cons_zero, List.set_cons_succ]))
  refine seqS_more ?_
  go_wp2_with fail
  refine HA2.out.mono ?_
  rintro e w1 ⟨rfl, hb1, hf1⟩
  have h1 : XAt w1 x i E (D.asked E.now) := HX0.out.dep_on (HX0.out.dep.upd_brk hb1 hf1) (Only.inS (a := 1) (f := hf1))
  have F1 : Fr i.S w w1 := (g0.mono (fun _ _ e => e.elim)).trans (Only.inS (a := 1) (f := hf1))
  have hbx1 := HB0.out.fr (Only.inS (a := 1) (f := hf1)) hnp
  have hs1 : BaseS x i E.now D.cf D.probe w1 := h1.baseS
  have hd1 := h1.dep
  have HAd1 := HAd w1 hd1
  have H1 := Lib.hid h1
  clear hb1 hf1 HA2 HX0 HB0 g0 h1 hs0 hd1 HAd
  go_wp2_with fail
  refine Thn.mk ⟨hs1, ?_⟩
  refine seqS_last ?_
  have q1 := hs1
  unfold BaseS at q1
  obtain ⟨x0, -, -, d1, -⟩ := q1
  clear hs1
  go_wp2_with fail
  refine HAd1.out.mono ?_
  rintro e w2 ⟨s, rfl, hbk2, hf2, hrd2⟩
  have hfi : Fr i.S w1 w2 := hf2.mono (fun k _ e => by rcases e with e | e <;> cases e; exact i.mem 4; exact i.mem 5)
  have h2 : XAt w2 x i E (D.admitted E.now id) := by
    rw [HAdm.out]
    exact H1.out.dep_on (H1.out.dep.upd_bulk hbk2 hf2) hfi
  have F2 : Fr i.S w w2 := F1.trans hfi
  have hbx2 := hbx1.fr hfi hnp
  have hsz1 := F1.size
  have HRd := Lib.hid hrd2
  have H2 := Lib.hid h2
  have HCf := Lib.hid (show (D.admitted E.now id).cf.tmo = D.cf.tmo from rfl)
  generalize D.admitted E.now id = DA at *
  generalize w1.heap.size = B1 at *
  obtain ⟨sa, sn, sc⟩ := s
  unfold Sl.val
  clear hbk2 hf2 hfi hrd2 H1 HAd1 F1 hbx1 x0 d1 HAdm
  by_cases hT : told = 2
  · have ht2 : (told == 2) = true := by simpa using hT
    have q2 := h2.baseS
    unfold BaseS at q2
    obtain ⟨x0, -, -, -, -, -, -, -, -, -, -, -, -, -, -, -, -, -, -, -, -, -, -, -, d22⟩ := q2
    have fz := h2.dep.blk.free 22
    have f3 : Fr i.S w2 (w2.setCell ⟨i.d, 22, none⟩ (.int .i64 id)) := (Fr.refl _ _).setAt _ (i.mem 0)
    have h3 : XAt (w2.setCell ⟨i.d, 22, none⟩ (.int .i64 id)) x i E { DA with probe := id } := h2.dep_on (h2.dep.upd_probe id) f3
    have hbx3 := hbx2.fr f3 hnp
    have HRd3 := Lib.hid (HRd.out.fr (f3) (fun b _ e => by have := HX.out.below b e; omega))
    have F3 := F2.trans f3
    have HLL := Lib.hid (show LL = (if how = 1 then (Dp.keep { DA with probe := id } c).runs [id] else Dp.keep { DA with probe := id } c).runs others by rw [HL.out, if_pos hT])
    have H3 := Lib.hid h3
    clear h2 hbx2 f3 h3 H2 HRd F2 HL hT
    go_wp2_with fail
    generalize w2.setCell ⟨i.d, 22, none⟩ (.int .i64 id) = w3 at *
    clear x0 d22 fz
    have hs3 : BaseS x i E.now ({ DA with probe := id } : Dp).cf ({ DA with probe := id } : Dp).probe w3 := H3.out.baseS
    have HK := dep_keep i { DA with probe := id } c (w3.drewN 1) (H3.out.drewN 1).dep (HC.out.fr (F3.drewN 1) (fun _ _ e => .inl e))
    unfold CallR.val Sl.val at HK
    have HK2 := Lib.hid HK
    clear HK
    refine region_ord (BaseC x i E.now ({ DA with probe := id } : Dp).cf ({ DA with probe := id } : Dp).probe w.heap.size c.r) [(true, 0), (true, 1), (true, 2), (true, 3), (true, 4), (false, 5)] (by kernel_rfl) (by kernel_rfl) (fun _ _ d _ _ h => by cases d <;> exact h) ⟨hs3, callS hbx3⟩ ?_
    simp only [opsAt, List.filterMap_cons, List.filterMap_nil, List.getElem?_toArray, List.getElem?_cons_zero, List.getElem?_cons_succ, Option.map_some]
    repeat ((refine seqS_take (v := ?_) rfl ?_ ?_); rotate_left; (focus (intro wS hS; unfold BaseC BaseS CallS at hS; go_split_ands; go_simp; first | done | with_reducible rfl)); (simp only [Act.put, List.setIfInBounds_toArray, List.set_cons_zero, List.set_cons_succ]))
    refine seqS_last ?_
    unfold Sl.val
    go_wp2_with fail
    refine HK2.out.mono ?_
    rintro e w4 ⟨rfl, hd4, hf4⟩
    have h4 := H3.out.dep_on hd4 (((Fr.refl _ _).drewN 1).trans hf4)
    have F4 : Fr i.S w w4 := F3.trans (((Fr.refl _ _).drewN 1).trans hf4)
    have HRd4 := Lib.hid (HRd3.out.fr (((Fr.refl _ _).drewN 1).trans hf4) (fun b _ e => by have := HX.out.below b e; omega))
    have hcf : (Dp.keep { DA with probe := id } c).cf = DA.cf := by unfold Dp.keep Dp.put; split <;> rfl
    have HSet := deed_set x i.d E id DA.cf.tmo w4 h4.deed (by rw [← hcf]; exact h4.dep.typed.tmo) ha
    have HDAcf := Lib.hid (show DA.cf.tmo = D.cf.tmo from HCf.out)
    have HSet2 := Lib.hid HSet
    have q4 := h4.baseS
    rw [hcf] at q4
    unfold BaseS at q4
    obtain ⟨x0, -, -, -, -, -, -, -, -, -, d8, -⟩ := q4
    generalize hD4 : Dp.keep { DA with probe := id } c = D4 at *
    have H4 := Lib.hid h4
    clear HK2 hd4 hf4 h4 hs3 hbx3 HRd3 F3 H3 hcf HSet hD4
    go_wp2_with fail
    refine HSet2.out.mono ?_
    rintro e w5 ⟨rfl, hd5, hf5⟩
    have hfrom : Fr (From x) w4 w5 := hf5.mono (fun k _ e => (H4.out.deed.own_from e).1)
    have h5 : XAt w5 x i PP.1 D4 := by
      rw [HP.out, ← HDAcf.out]
      exact H4.out.deed_on hd5 hfrom
    have HRd5 := Lib.hid (HRd4.out.fr hf5 (fun b _ e => by have := HX.out.deed.own_old F4 (fun e => by have := HX.out.below x e; omega) e; omega))
    have HF5 := Lib.hid ((F4.depT (x := x)).trans hfrom.fromT)
    have H5 := Lib.hid h5
    clear x0 d8 hd5 hf5 hfrom h5 HRd4 F4 H4 HSet2
    by_cases hO : how = 1
    · have ho1 : (how == 1) = true := by simpa using hO
      have HLL2 := Lib.hid (show LL = (D4.runs [id]).runs others by rw [HLL.out, if_pos hO])
      clear hO HLL
      have HR := fun W (hW : XAt W x i PP.1 D4) s hs => Lib.hid (deed_runs x i PP.1 D4 s [id] W hW hs)
      go_wp2_with fail
      refine (HR _ (H5.out.nil ((Fr.refl _ _).alloc _)) ⟨some ⟨w5.heap.size, 0, none⟩, 1, 1⟩ ?hs).out.mono ?_
      case hs => exact one_rdS (fun e => by have := HX.out.below _ e; have := H5.out.deed.lt; omega)
      rintro e w6 ⟨rfl, h6, hf6⟩
      have HRd6 := HRd5.out.fr (((Fr.refl _ _).alloc _).trans hf6) (fun b _ e => by have := HX.out.below b e; omega)
      have HR2 := Lib.hid (deed_runs x i PP.1 (D4.runs [id]) ⟨sa, sn, sc⟩ others w6 h6 (HRd6.mono (fun b _ e => by have := HX.out.below b e; omega)))
      unfold Sl.val at HR2
      have HF6 := Lib.hid (HF5.out.trans ((((Fr.refl _ _).alloc _).trans hf6).depT (x := x)))
      clear h6 hf6 HRd6 HR
      go_wp2_with fail
      refine HR2.out.mono ?_
      rintro e w7 ⟨rfl, h7, hf7⟩
      have H7 := Lib.hid h7
      have HF7 := Lib.hid (HF6.out.trans hf7.depT)
      clear h7 hf7 HR2
      go_wp2_with fail
      go_end0
      refine ⟨rfl, ?_, HF7.out⟩
      rw [show PP.2 = (D4.runs [id]).runs others by rw [HP.out, ← HLL2.out]]
      exact H7.out
    · have ho1 : (how == 1) = false := by simpa using hO
      have HLL2 := Lib.hid (show LL = D4.runs others by rw [HLL.out, if_neg hO])
      clear hO HLL
      have HR2 := Lib.hid (deed_runs x i PP.1 D4 ⟨sa, sn, sc⟩ others w5 H5.out (HRd5.out.mono (fun b _ e => by have := HX.out.below b e; omega)))
      unfold Sl.val at HR2
      go_wp2_with fail
      refine HR2.out.mono ?_
      rintro e w7 ⟨rfl, h7, hf7⟩
      have H7 := Lib.hid h7
      have HF7 := Lib.hid (HF5.out.trans hf7.depT)
      clear h7 hf7 HR2
      go_wp2_with fail
      go_end0
      refine ⟨rfl, ?_, HF7.out⟩
      rw [show PP.2 = D4.runs others by rw [HP.out, ← HLL2.out]]
      exact H7.out
  · have ht2 : (told == 2) = false := by simpa using hT
    have HLL := Lib.hid (show LL = (if how = 1 then (DA.keep c).runs [id] else DA.keep c).runs others by rw [HL.out, if_neg hT])
    obtain ⟨w3, rfl⟩ : ∃ w3, w3 = w2 := ⟨_, rfl⟩
    have hbx3 := hbx2
    have HRd3 := HRd
    have F3 := F2
    have H3 := H2
    clear h2 hbx2 H2 HRd F2 HL hT
    go_wp2_with fail
    have hs3 : BaseS x i E.now (DA : Dp).cf (DA : Dp).probe w3 := H3.out.baseS
    have HK := dep_keep i DA c (w3.drewN 1) (H3.out.drewN 1).dep (HC.out.fr (F3.drewN 1) (fun _ _ e => .inl e))
    unfold CallR.val Sl.val at HK
    have HK2 := Lib.hid HK
    clear HK
    refine region_ord (BaseC x i E.now (DA : Dp).cf (DA : Dp).probe w.heap.size c.r) [(true, 0), (true, 1), (true, 2), (true, 3), (true, 4), (false, 5)] (by kernel_rfl) (by kernel_rfl) (fun _ _ d _ _ h => by cases d <;> exact h) ⟨hs3, callS hbx3⟩ ?_
    simp only [opsAt, List.filterMap_cons, List.filterMap_nil, List.getElem?_toArray, List.getElem?_cons_zero, List.getElem?_cons_succ, Option.map_some]
    repeat ((refine seqS_take (v := ?_) rfl ?_ ?_); rotate_left; (focus (intro wS hS; unfold BaseC BaseS CallS at hS; go_split_ands; go_simp; first | done | with_reducible rfl)); (simp only [Act.put, List.setIfInBounds_toArray, List.set_cons_zero, List.set_cons_succ]))
    refine seqS_last ?_
    unfold Sl.val
    go_wp2_with fail
    refine HK2.out.mono ?_
    rintro e w4 ⟨rfl, hd4, hf4⟩
    have h4 := H3.out.dep_on hd4 (((Fr.refl _ _).drewN 1).trans hf4)
    have F4 : Fr i.S w w4 := F3.trans (((Fr.refl _ _).drewN 1).trans hf4)
    have HRd4 := Lib.hid (HRd3.out.fr (((Fr.refl _ _).drewN 1).trans hf4) (fun b _ e => by have := HX.out.below b e; omega))
    have hcf : (Dp.keep DA c).cf = DA.cf := by unfold Dp.keep Dp.put; split <;> rfl
    have HSet := deed_set x i.d E id DA.cf.tmo w4 h4.deed (by rw [← hcf]; exact h4.dep.typed.tmo) ha
    have HDAcf := Lib.hid (show DA.cf.tmo = D.cf.tmo from HCf.out)
    have HSet2 := Lib.hid HSet
    have q4 := h4.baseS
    rw [hcf] at q4
    unfold BaseS at q4
    obtain ⟨x0, -, -, -, -, -, -, -, -, -, d8, -⟩ := q4
    generalize hD4 : Dp.keep DA c = D4 at *
    have H4 := Lib.hid h4
    clear HK2 hd4 hf4 h4 hs3 hbx3 HRd3 F3 H3 hcf HSet hD4
    go_wp2_with fail
    refine HSet2.out.mono ?_
    rintro e w5 ⟨rfl, hd5, hf5⟩
    have hfrom : Fr (From x) w4 w5 := hf5.mono (fun k _ e => (H4.out.deed.own_from e).1)
    have h5 : XAt w5 x i PP.1 D4 := by
      rw [HP.out, ← HDAcf.out]
      exact H4.out.deed_on hd5 hfrom
    have HRd5 := Lib.hid (HRd4.out.fr hf5 (fun b _ e => by have := HX.out.deed.own_old F4 (fun e => by have := HX.out.below x e; omega) e; omega))
    have HF5 := Lib.hid ((F4.depT (x := x)).trans hfrom.fromT)
    have H5 := Lib.hid h5
    clear x0 d8 hd5 hf5 hfrom h5 HRd4 F4 H4 HSet2
    by_cases hO : how = 1
    · have ho1 : (how == 1) = true := by simpa using hO
      have HLL2 := Lib.hid (show LL = (D4.runs [id]).runs others by rw [HLL.out, if_pos hO])
      clear hO HLL
      have HR := fun W (hW : XAt W x i PP.1 D4) s hs => Lib.hid (deed_runs x i PP.1 D4 s [id] W hW hs)
      go_wp2_with fail
      refine (HR _ (H5.out.nil ((Fr.refl _ _).alloc _)) ⟨some ⟨w5.heap.size, 0, none⟩, 1, 1⟩ ?hs).out.mono ?_
      case hs => exact one_rdS (fun e => by have := HX.out.below _ e; have := H5.out.deed.lt; omega)
      rintro e w6 ⟨rfl, h6, hf6⟩
      have HRd6 := HRd5.out.fr (((Fr.refl _ _).alloc _).trans hf6) (fun b _ e => by have := HX.out.below b e; omega)
      have HR2 := Lib.hid (deed_runs x i PP.1 (D4.runs [id]) ⟨sa, sn, sc⟩ others w6 h6 (HRd6.mono (fun b _ e => by have := HX.out.below b e; omega)))
      unfold Sl.val at HR2
      have HF6 := Lib.hid (HF5.out.trans ((((Fr.refl _ _).alloc _).trans hf6).depT (x := x)))
      clear h6 hf6 HRd6 HR
      go_wp2_with fail
      refine HR2.out.mono ?_
      rintro e w7 ⟨rfl, h7, hf7⟩
      have H7 := Lib.hid h7
      have HF7 := Lib.hid (HF6.out.trans hf7.depT)
      clear h7 hf7 HR2
      go_wp2_with fail
      go_end0
      refine ⟨rfl, ?_, HF7.out⟩
      rw [show PP.2 = (D4.runs [id]).runs others by rw [HP.out, ← HLL2.out]]
      exact H7.out
    · have ho1 : (how == 1) = false := by simpa using hO
      have HLL2 := Lib.hid (show LL = D4.runs others by rw [HLL.out, if_neg hO])
      clear hO HLL
      have HR2 := Lib.hid (deed_runs x i PP.1 D4 ⟨sa, sn, sc⟩ others w5 H5.out (HRd5.out.mono (fun b _ e => by have := HX.out.below b e; omega)))
      unfold Sl.val at HR2
      go_wp2_with fail
      refine HR2.out.mono ?_
      rintro e w7 ⟨rfl, h7, hf7⟩
      have H7 := Lib.hid h7
      have HF7 := Lib.hid (HF5.out.trans hf7.depT)
      clear h7 hf7 HR2
      go_wp2_with fail
      go_end0
      refine ⟨rfl, ?_, HF7.out⟩
      rw [show PP.2 = D4.runs others by rw [HP.out, ← HLL2.out]]
      exact H7.out
-- in: end

-- out: printed by gen/offer2.py
set_option maxRecDepth 100000 in
set_option maxHeartbeats 6400000 in
theorem deed_offer_out (x : Nat) (i : DepIds) (E : Deed) (D : Dp) (id : Int) (c : Cl) (w : World) (h : XAt w x i E D) (hc : c.At w i.M) (ha : E.acts.length ≤ 1000) (hn : E.outs.length ≤ 1000000) (h3 : (D.brk.ask E.now).1 ≠ 3) (hh : D.how id = 3) :
    Calls Try.prog 39 #[.pointer (some ⟨x, 0, none⟩), .int .i64 id, c.r.val] w (XPost w x i (.tuple #[]) (D.offer E id c).1 (D.offer E id c).2) := by
  have hxl := h.deed.lt
  have hnp : ¬ i.S w.heap.size := fun e => by have := h.below _ e; omega
  have HP := Lib.hid (show D.offer E id c = (E.fall (D.refused E.now id) c 3, (D.refused E.now id).fall c 3) by unfold Dp.offer; rw [if_neg h3, if_pos hh])
  have HRf := Lib.hid (show D.refused E.now id = Dp.count (if (D.brk.ask E.now).1 = 2 then { D.admitted E.now id with brk := (D.brk.ask E.now).2.back.2 } else D.admitted E.now id) E.now id 3 from rfl)
  generalize D.offer E id c = PP at *
  generalize D.refused E.now id = RF at *
  have g0 : Fr Nil w ((w.alloc (.cells c.r.cells 116)).drewN 1) := ((Fr.refl _ _).alloc _).drewN 1
  have hb0 := (Blk.new w (.cells c.r.cells 116)).drewN 1
  have hx0 := h.nil g0
  have hs0 : BaseS x i E.now D.cf D.probe _ := hx0.baseS
  have HA := brk_ask i.brk D.brk E.now _ hx0.dep.brk
  generalize htold : (D.brk.ask E.now).1 = told at *
  have hb3 : (told == 3) = false := by simpa using h3
  have HAd := fun W (hW : DepAt W i (D.asked E.now)) => Lib.hid (bulk_admit i.bulk D.bulk id W hW.bulk)
  have HHow := Lib.hid (show D.how id = (D.bulk.admit id).1 from rfl)
  have HOth := Lib.hid (show D.others id = (D.bulk.admit id).2.1 from rfl)
  have HAdm := Lib.hid (show D.admitted E.now id = { D.asked E.now with bulk := (D.bulk.admit id).2.2 } from rfl)
  generalize D.how id = how at *
  generalize D.others id = others at *
  rw [← HHow.out, ← HOth.out] at HAd
  have hbh : (how != 3) = false := by simpa using hh
  have HA2 := Lib.hid HA
  have HX := Lib.hid h
  have HX0 := Lib.hid hx0
  have HB0 := Lib.hid hb0
  have HC := Lib.hid hc
  have HN := Lib.hid h.deed.now
  have HTmo := Lib.hid h.dep.typed.tmo
  unfold CallR.val Sl.val
  unfold CallR.cells Sl.val at *
  clear h hc HA hx0 hb0 h3 htold hh HHow HOth
  go_enter Try.func39, Try.ntmps39
  go_wp2_with fail
  refine region_ord (BaseS x i E.now D.cf D.probe) [(true, 0), (true, 1), (true, 2), (true, 3), (true, 4), (true, 5), (true, 6), (true, 7), (true, 8), (true, 9), (true, 10), (false, 11), (false, 12)] (by kernel_rfl) (by kernel_rfl) (fun _ _ d _ _ h => by cases d <;> exact h) hs0 ?_
  simp only [opsAt, List.filterMap_cons, List.filterMap_nil, List.getElem?_toArray, List.getElem?_cons_zero, List.getElem?_cons_succ, Option.map_some]
  repeat ((refine seqS_take (v := ?_) rfl ?_ ?_); rotate_left; (focus (intro wS hS; unfold BaseS at hS; go_split_ands; go_simp; first | done | with_reducible rfl)); (simp only [Act.put, List.setIfInBounds_toArray, List.set_cons_zero, List.set_cons_succ]))
  refine seqS_more ?_
  go_wp2_with fail
  refine HA2.out.mono ?_
  rintro e w1 ⟨rfl, hb1, hf1⟩
  have h1 : XAt w1 x i E (D.asked E.now) := HX0.out.dep_on (HX0.out.dep.upd_brk hb1 hf1) (Only.inS (a := 1) (f := hf1))
  have F1 : Fr i.S w w1 := (g0.mono (fun _ _ e => e.elim)).trans (Only.inS (a := 1) (f := hf1))
  have hbx1 := HB0.out.fr (Only.inS (a := 1) (f := hf1)) hnp
  have hs1 : BaseS x i E.now D.cf D.probe w1 := h1.baseS
  have hd1 := h1.dep
  have HAd1 := HAd w1 hd1
  have H1 := Lib.hid h1
  clear hb1 hf1 HA2 HX0 HB0 g0 h1 hs0 hd1 HAd
  go_wp2_with fail
  refine Thn.mk ⟨hs1, ?_⟩
  refine seqS_last ?_
  have q1 := hs1
  unfold BaseS at q1
  obtain ⟨x0, -, -, d1, -⟩ := q1
  clear hs1
  go_wp2_with fail
  refine HAd1.out.mono ?_
  rintro e w2 ⟨s, rfl, hbk2, hf2, hrd2⟩
  have hfi : Fr i.S w1 w2 := hf2.mono (fun k _ e => by rcases e with e | e <;> cases e; exact i.mem 4; exact i.mem 5)
  have h2 : XAt w2 x i E (D.admitted E.now id) := by
    rw [HAdm.out]
    exact H1.out.dep_on (H1.out.dep.upd_bulk hbk2 hf2) hfi
  have F2 : Fr i.S w w2 := F1.trans hfi
  have hbx2 := hbx1.fr hfi hnp
  have hsz1 := F1.size
  have HRd := Lib.hid hrd2
  have H2 := Lib.hid h2
  have HCf := Lib.hid (show (D.admitted E.now id).cf.tmo = D.cf.tmo from rfl)
  have HBk := Lib.hid (show (D.admitted E.now id).brk = (D.brk.ask E.now).2 from rfl)
  generalize D.admitted E.now id = DA at *
  generalize w1.heap.size = B1 at *
  obtain ⟨sa, sn, sc⟩ := s
  unfold Sl.val
  clear hbk2 hf2 hfi hrd2 H1 HAd1 F1 hbx1 x0 d1 HAdm
  by_cases hT : told = 2
  · have ht2 : (told == 2) = true := by simpa using hT
    have q2 := h2.baseS
    unfold BaseS at q2
    obtain ⟨x0, -, d0, -⟩ := q2
    have HB := Lib.hid (brk_back i.brk DA.brk w2 h2.dep.brk)
    have HRf2 := Lib.hid (show RF = Dp.count { DA with brk := DA.brk.back.2 } E.now id 3 by rw [HRf.out, if_pos hT, HBk.out])
    clear hT HRf h2
    go_wp2_with fail
    refine HB.out.mono ?_
    rintro e w3 ⟨rfl, hb3, hf3⟩
    have h3 : XAt w3 x i E { DA with brk := DA.brk.back.2 } := H2.out.dep_on (H2.out.dep.upd_brk hb3 hf3) (Only.inS (a := 1) (f := hf3))
    have F3 := F2.trans (Only.inS (a := 1) (f := hf3))
    have hbx3 := hbx2.fr (Only.inS (a := 1) (f := hf3)) hnp
    have HCt := deed_count x i E { DA with brk := DA.brk.back.2 } id 3 (by omega) w3 h3
    clear hb3 hf3 H2 h3 HB hbx2 F2 x0 d0
    have HCt2 := Lib.hid HCt
    clear HCt
    go_wp2_with fail
    refine HCt2.out.mono ?_
    rintro e w4 ⟨rfl, h4, hf4⟩
    rw [← HRf2.out] at h4
    have F4 := F3.trans hf4
    have hbx4 := hbx3.fr hf4 hnp
    have HF := Lib.hid (deed_fall x i E RF c 3 w4 h4 (HC.out.fr F4 (fun _ _ e => .inl e)) ha hn)
    unfold CallR.val Sl.val at HF
    have F4' := Lib.hid F4
    clear h4 hf4 F3 hbx3 HCt2 F4
    have p0 := hbx4.cell 0
    have q0 := hbx4.free 0
    have p1 := hbx4.cell 1
    have q1 := hbx4.free 1
    have p2 := hbx4.cell 2
    have q2 := hbx4.free 2
    have p3 := hbx4.cell 3
    have q3 := hbx4.free 3
    have p4 := hbx4.cell 4
    have q4 := hbx4.free 4
    have p5 := hbx4.cell 5
    have q5 := hbx4.free 5
    simp at p0 p1 p2 p3 p4 p5
    go_wp2_with fail
    refine HF.out.mono ?_
    rintro e w5 ⟨rfl, h5, F5⟩
    have H5 := Lib.hid h5
    have F5' := Lib.hid F5
    clear h5 F5 HF hbx4
    clear p0 p1 p2 p3 p4 p5 q0 q1 q2 q3 q4 q5
    go_wp2_with fail
    go_end0
    refine ⟨rfl, ?_, (F4'.out.depT (x := x)).trans F5'.out⟩
    rw [HP.out]
    exact H5.out
  · have ht2 : (told == 2) = false := by simpa using hT
    have HRf2 := Lib.hid (show RF = Dp.count DA E.now id 3 by rw [HRf.out, if_neg hT])
    obtain ⟨w3, rfl⟩ : ∃ w3, w3 = w2 := ⟨_, rfl⟩
    have hbx3 := hbx2
    have F3 := F2
    have HCt := deed_count x i E DA id 3 (by omega) w3 h2
    clear hT HRf h2 H2 hbx2 F2
    have HCt2 := Lib.hid HCt
    clear HCt
    go_wp2_with fail
    refine HCt2.out.mono ?_
    rintro e w4 ⟨rfl, h4, hf4⟩
    rw [← HRf2.out] at h4
    have F4 := F3.trans hf4
    have hbx4 := hbx3.fr hf4 hnp
    have HF := Lib.hid (deed_fall x i E RF c 3 w4 h4 (HC.out.fr F4 (fun _ _ e => .inl e)) ha hn)
    unfold CallR.val Sl.val at HF
    have F4' := Lib.hid F4
    clear h4 hf4 F3 hbx3 HCt2 F4
    have p0 := hbx4.cell 0
    have q0 := hbx4.free 0
    have p1 := hbx4.cell 1
    have q1 := hbx4.free 1
    have p2 := hbx4.cell 2
    have q2 := hbx4.free 2
    have p3 := hbx4.cell 3
    have q3 := hbx4.free 3
    have p4 := hbx4.cell 4
    have q4 := hbx4.free 4
    have p5 := hbx4.cell 5
    have q5 := hbx4.free 5
    simp at p0 p1 p2 p3 p4 p5
    go_wp2_with fail
    refine HF.out.mono ?_
    rintro e w5 ⟨rfl, h5, F5⟩
    have H5 := Lib.hid h5
    have F5' := Lib.hid F5
    clear h5 F5 HF hbx4
    clear p0 p1 p2 p3 p4 p5 q0 q1 q2 q3 q4 q5
    go_wp2_with fail
    go_end0
    refine ⟨rfl, ?_, (F4'.out.depT (x := x)).trans F5'.out⟩
    rw [HP.out]
    exact H5.out
-- out: end

theorem deed_offer (x : Nat) (i : DepIds) (E : Deed) (D : Dp) (id : Int) (c : Cl) (w : World) (h : XAt w x i E D) (hc : c.At w i.M) (ha : E.acts.length ≤ 1000) (hn : E.outs.length ≤ 1000000) :
    Calls Try.prog 39 #[.pointer (some ⟨x, 0, none⟩), .int .i64 id, c.r.val] w (XPost w x i (.tuple #[]) (D.offer E id c).1 (D.offer E id c).2) := by
  by_cases h3 : (D.brk.ask E.now).1 = 3
  · exact deed_offer_short x i E D id c w h hc ha hn h3
  · by_cases hh : D.how id = 3
    · exact deed_offer_out x i E D id c w h hc ha hn h3 hh
    · exact deed_offer_in x i E D id c w h hc ha h3 hh

end Go.Proofs.Ythnaieeaominjaa
