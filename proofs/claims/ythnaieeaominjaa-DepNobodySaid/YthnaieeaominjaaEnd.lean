/-
  Package dep: end.
-/
import Derived.Test.YthnaieeaominjaaRuns
namespace Go.Proofs.Ythnaieeaominjaa
open Go.RowKit
set_option linter.unusedVariables false
set_option linter.unusedSimpArgs false

/-- Behind an append to the outcomes. -/
theorem DeedAt.outs_on {w w2 w3 : World} {x d c : Nat} {A : Option Addr} {va vo : Value} {acts : List DAct} {outs news : List Out} {now : Int}
    (hb : Blk w x (.cells (deedCells d va vo now) 113 (0, 0))) (hra : w.ownsRow (x + 1) 80 3 va acts.length (actCells acts)) (hro : w.ownsRow (x + 1) 82 5 vo outs.length (outCells outs))
    (hne : ∀ k, va.ownBlock = some k → vo.ownBlock ≠ some k) (hn : U64 now) (f2 : Fr Nil w w2)
    (hown : w3.ownsRow (x + 1) 82 5 (.slice A (outs.length + news.length) c) (outs.length + news.length) (outCells outs ++ outCells news)) (hgrow : w2.grownBy w3 vo.ownBlock)
    (hg : (Value.slice A (outs.length + news.length) c).ownBlock = vo.ownBlock ∨ (Value.slice A (outs.length + news.length) c).ownBlock = some w2.heap.size) :
    DeedAt (w3.setCell ⟨x, 2, none⟩ (.slice A (outs.length + news.length) c)) x d ⟨acts, outs ++ news, now⟩ ∧ Fr (From x) w (w3.setCell ⟨x, 2, none⟩ (.slice A (outs.length + news.length) c)) := by
  have f3 : Fr (fun k => vo.ownBlock = some k) w2 w3 := ⟨hgrow.os, hgrow.tape, hgrow.output, hgrow.size, fun k hk hn => hgrow.block k hk (fun e => hn e.symm)⟩
  have hx3 : Blk w3 x (.cells (deedCells d va vo now) 113 (0, 0)) := (hb.fr f2 (fun x => x)).fr f3 (fun e => absurd (hro.lt x e).1 (by omega))
  have ha3 : w3.ownsRow (x + 1) 80 3 va acts.length (actCells acts) := ownsRow_own (ownsRow_fr hra f2 (fun _ _ _ x => x)) f3 (fun k hk e => hne k hk e)
  have f4 : Fr (Only x) w3 (w3.setCell ⟨x, 2, none⟩ (.slice A (outs.length + news.length) c)) := (Fr.refl _ _).setAt _ (Only.self _)
  refine ⟨⟨⟨va, .slice A (outs.length + news.length) c, ?_, ownsRow_fr ha3 f4 (fun k hk _ e => by unfold Only at e; omega), ?_, ?_⟩, hn⟩, ?_⟩
  · have := hx3.set 2 (.slice A (outs.length + news.length) c)
    simpa [deedCells] using this
  · have := ownsRow_fr hown f4 (fun k hk _ e => by unfold Only at e; omega)
    simpa [outCells] using this
  · intro k hk e
    rcases hg with hg | hg
    · exact hne k hk (hg ▸ e)
    · rw [hg] at e
      have h1 := (hra.lt k hk).2
      have h2 := f2.size
      injection e with e
      omega
  · refine ((f2.mono (fun _ _ x => x.elim)).trans (f3.mono (fun k _ e => by have := (hro.lt k e).1; unfold From; omega))).trans (f4.mono (fun k _ e => by unfold Only at e; unfold From; omega))

theorem outCells_append (a b : List Out) : outCells (a ++ b) = outCells a ++ outCells b := by simp [outCells]
theorem outCells_one (l : List Out) : ∀ u ∈ outCells l, u.oneCell' = true := by
  intro u hu
  simp only [outCells, List.mem_flatMap] at hu
  obtain ⟨o, -, ho⟩ := hu
  simp [Out.cells] at ho
  rcases ho with rfl | rfl | rfl | rfl | rfl <;> rfl

/-- A call is put into its box. -/
theorem put_blk {w : World} {p : Nat} {r0 : Array Value} {T : TypeId} (hr : r0.size = 6) (ra na : Option Addr) (rn rc nn nc : Nat) (st sp ca t : Int) (h : Blk w p (.cells r0 T (0, 0))) :
    Blk (((((((w.setCell ⟨p, 0, none⟩ (.slice ra rn rc)).setCell ⟨p, 1, none⟩ (.slice na nn nc)).setCell ⟨p, 2, none⟩ (.int .i64 st)).setCell ⟨p, 3, none⟩ (.int .i64 sp)).setCell ⟨p, 4, none⟩ (.int .i64 ca)).setCell ⟨p, 5, none⟩ (.int .u64 t))) p (.cells #[.slice ra rn rc, .slice na nn nc, .int .i64 st, .int .i64 sp, .int .i64 ca, .int .u64 t] T (0, 0)) ∧
    Fr (Only p) w (((((((w.setCell ⟨p, 0, none⟩ (.slice ra rn rc)).setCell ⟨p, 1, none⟩ (.slice na nn nc)).setCell ⟨p, 2, none⟩ (.int .i64 st)).setCell ⟨p, 3, none⟩ (.int .i64 sp)).setCell ⟨p, 4, none⟩ (.int .i64 ca)).setCell ⟨p, 5, none⟩ (.int .u64 t))) := by
  obtain ⟨l⟩ := r0
  match l, hr with
  | [x0, x1, x2, x3, x4, x5], _ =>
    refine ⟨?_, ((((((Fr.refl _ _).setAt _ (Only.self _)).setAt _ (Only.self _)).setAt _ (Only.self _)).setAt _ (Only.self _)).setAt _ (Only.self _)).setAt _ (Only.self _)⟩
    have := (((((h.set 0 (.slice ra rn rc)).set 1 (.slice na nn nc)).set 2 (.int .i64 st)).set 3 (.int .i64 sp)).set 4 (.int .i64 ca)).set 5 (.int .u64 t)
    simpa using this

def OutS (x p : Nat) (vo : Value) (now : Int) (c : CallR) (w : World) : Prop := CallS p c w ∧ w.cell? ⟨x, 2, none⟩ = some vo ∧ w.cell? ⟨x, 3, none⟩ = some (.int .u64 now)
theorem outS {w : World} {x p d : Nat} {va vo : Value} {now : Int} {c : CallR} {T : TypeId} (hp : Blk w p (.cells c.cells T (0, 0))) (hb : Blk w x (.cells (deedCells d va vo now) 113 (0, 0))) : OutS x p vo now c w :=
  ⟨callS hp, by rw [hb.cell]; rfl, by rw [hb.cell]; rfl⟩
theorem split_len {vl : List Int} : ∀ {l : List (Int × Int)} {r : List (Int × Int)}, splitOf vl l = some r → r.length = l.length := by
  intro l r h
  by_cases hf : fitsAll vl l
  · rw [splitOf_some hf] at h; cases h; simp [valued]
  · simp only [fitsAll, Classical.not_forall] at hf
    obtain ⟨p, hp, hn⟩ := hf
    rw [splitOf_none hp hn] at h; cases h
theorem told_len (c : CallR) (kind now : Int) (n : Nat) (vl : List Int) (l : List (Int × Int)) : (outsTold c kind now (if vl.length = n then (splitOf vl l).getD [] else [])).length ≤ l.length := by
  unfold outsTold
  rw [List.length_map]
  split
  · cases h : splitOf vl l with
    | none => simp
    | some r => simp [split_len h]
  · simp

/-- A call over: what is told of it. -/
def Dp.over (D : Dp) (c : Cl) : Dp := D.keep (c.with_ c.r.fin.1)
def Cl.told (c : Cl) (kind now : Int) (vl : List Int) : List Out := outsTold c.r.fin.1 kind now (if vl.length = c.al.length then (splitOf vl c.ml).getD [] else [])

set_option maxRecDepth 100000 in
set_option maxHeartbeats 1600000 in
theorem deed_end (x : Nat) (i : DepIds) (E : Deed) (D : Dp) (c : Cl) (kind : Int) (hkind : kind = 1 ∨ kind = 3) (v : Sl) (vl : List Int) (w : World) (h : XAt w x i E D) (hc : c.At w i.M) (hv : Rd w i.M v 1 vl.length (ints vl)) (hn : E.outs.length ≤ 1000000) :
    Calls Try.prog 51 #[.pointer (some ⟨x, 0, none⟩), c.r.val, .int .i64 kind, v.val] w (XPost w x i (.tuple #[]) { E with outs := E.outs ++ c.told kind E.now vl } (D.over c)) := by
  obtain ⟨i0, hi0, hz0, hz1, hz2⟩ := info_parts Try.info_out
  have hxl := h.deed.lt
  obtain ⟨va, vo, hb, hra, hro, hne⟩ := h.deed.rows
  have HX := Lib.hid h
  have HE := fun W => Lib.hid (call_end c.r W)
  have HC := Lib.hid (hc.with_ (fin_args c.r))
  have HO := Lib.hid (show D.over c = D.keep (c.with_ c.r.fin.1) from rfl)
  have hd2 := hb.cell 2
  simp [deedCells] at hd2
  have HA := Lib.hid hc.args
  have HM := Lib.hid hc.members
  have hT := Lib.hid (show { E with outs := E.outs ++ c.told kind E.now vl } = ⟨E.acts, E.outs ++ outsTold c.r.fin.1 kind E.now (if vl.length = c.al.length then (splitOf vl c.ml).getD [] else []), E.now⟩ from rfl)
  have hra0 := fin_args c.r
  generalize hEE : ({ E with outs := E.outs ++ c.told kind E.now vl } : Deed) = EE at *
  generalize hDD : D.over c = DD at *
  clear hEE hDD
  obtain ⟨⟨⟨aa, an, ac⟩, ⟨ma, mn, mc⟩, st, sp, ca, t⟩, al, ml⟩ := c
  simp only at HE HC HO hra0
  generalize (CallR.fin ⟨⟨aa, an, ac⟩, ⟨ma, mn, mc⟩, st, sp, ca, t⟩).1 = r1 at *
  generalize (CallR.fin ⟨⟨aa, an, ac⟩, ⟨ma, mn, mc⟩, st, sp, ca, t⟩).2 = r2 at *
  obtain ⟨⟨ra, rn, rc⟩, ⟨na, nn, nc⟩, st1, sp1, ca1, t1⟩ := r1
  obtain ⟨hr1, hr2, -, -⟩ := hra0
  simp only at hr1 hr2
  injection hr1 with e1 e2 e3
  injection hr2 with e4 e5 e6
  subst e1 e2 e3 e4 e5 e6
  obtain ⟨sa, sn, sc⟩ := v
  unfold CallR.val Sl.val
  simp only
  clear h hc
  go_enter Try.func51, Try.ntmps51
  go_wp2_with fail
  refine (HE _).out.mono ?_
  rintro e w1 ⟨rfl, hf1⟩
  have hbx := (Blk.new w (.cells #[.slice ra rn rc, .slice na nn nc, .int .i64 st, .int .i64 sp, .int .i64 ca, .int .u64 t] 116)).fr hf1 (fun x => x)
  have p0 := hbx.cell 0
  have p1 := hbx.cell 1
  have p2 := hbx.cell 2
  have p3 := hbx.cell 3
  have p4 := hbx.cell 4
  have p5 := hbx.cell 5
  have q0 := hbx.free 0
  have q1 := hbx.free 1
  have q2 := hbx.free 2
  have q3 := hbx.free 3
  have q4 := hbx.free 4
  have q5 := hbx.free 5
  simp at p0 p1 p2 p3 p4 p5
  obtain ⟨hbx2, fp⟩ := put_blk rfl ra na rn rc nn nc st1 sp1 ca1 t1 hbx
  unfold CallR.val Sl.val
  simp only
  go_wp2_with fail
  clear p0 p1 p2 p3 p4 p5 q0 q1 q2 q3 q4 q5
  generalize ((((((w1.setCell ⟨w.heap.size, 0, none⟩ (.slice ra rn rc)).setCell ⟨w.heap.size, 1, none⟩ (.slice na nn nc)).setCell ⟨w.heap.size, 2, none⟩ (.int .i64 st1)).setCell ⟨w.heap.size, 3, none⟩ (.int .i64 sp1)).setCell ⟨w.heap.size, 4, none⟩ (.int .i64 ca1)).setCell ⟨w.heap.size, 5, none⟩ (.int .u64 t1)) = w2 at *
  have g2 : Fr Nil w w2 := (((Fr.refl _ _).alloc _).trans hf1).step fp (fun k hk e => by unfold Only at e; omega)
  have hb2 := hb.fr g2 (fun x => x)
  have HOut := Lib.hid (call_outs_told i.M ⟨⟨ra, rn, rc⟩, ⟨na, nn, nc⟩, st1, sp1, ca1, t1⟩ kind E.now hkind al vl ml ⟨sa, sn, sc⟩ (w2.drewN 1) (HA.out.fr (g2.drewN 1) (fun _ _ e => e.elim)) (HM.out.fr (g2.drewN 1) (fun _ _ e => e.elim)) (hv.fr (g2.drewN 1) (fun _ _ e => e.elim)))
  have hml := HM.out.2.2.1
  have htl := told_len ⟨⟨ra, rn, rc⟩, ⟨na, nn, nc⟩, st1, sp1, ca1, t1⟩ kind E.now al.length vl ml
  generalize outsTold ⟨⟨ra, rn, rc⟩, ⟨na, nn, nc⟩, st1, sp1, ca1, t1⟩ kind E.now (if vl.length = al.length then (splitOf vl ml).getD [] else []) = news at *
  refine region_ord (OutS x w.heap.size vo E.now ⟨⟨ra, rn, rc⟩, ⟨na, nn, nc⟩, st1, sp1, ca1, t1⟩) [(true, 0), (true, 1), (true, 2), (true, 3), (true, 4), (true, 5), (true, 6), (true, 7), (true, 8), (true, 9), (true, 10), (true, 11), (true, 12), (false, 13), (false, 14), (true, 15), (true, 16), (true, 17), (false, 18)] (by kernel_rfl) (by kernel_rfl) (fun _ _ d _ _ h => by cases d <;> exact h) (outS hbx2 hb2) ?_
  simp only [opsAt, List.filterMap_cons, List.filterMap_nil, List.getElem?_toArray, List.getElem?_cons_zero, List.getElem?_cons_succ, Option.map_some]
  repeat ((refine seqS_take (v := ?_) rfl ?_ ?_); rotate_left; (focus (intro wS hS; unfold OutS CallS at hS; go_split_ands; go_simp; first | done | with_reducible rfl)); (simp only [Act.put, List.setIfInBounds_toArray, List.set_cons_zero, List.set_cons_succ]))
  refine seqS_more ?_
  unfold Sl.val
  simp only
  go_wp2_with fail
  refine HOut.out.mono ?_
  rintro e w3 ⟨hf3, s, rfl, hown⟩
  have g3 : Fr Nil w w3 := (g2.drewN 1).trans hf3
  have hb3 := hb.fr g3 (fun x => x)
  have hbx3 := hbx2.fr (((Fr.refl Nil w2).drewN 1).trans hf3) (fun x => x)
  have hro3 := ownsRow_fr hro g3 (fun _ _ _ x => x)
  have hs3 := g3.size
  go_wp2_with fail
  refine Thn.mk ⟨outS hbx3 hb3, ?_⟩
  refine seqS_more ?_
  refine wpList_append_rows (w := w3) rfl _ _ _ rfl (x + 1) _ 82 i0 _ 5 40 Try.underlying41 hi0 hz0 hz1 hz2 rfl (by decide) _ _ _ _ _ _ rfl rfl hro3 hown (outCells_one _) (by unfold maxLen; omega) (by omega) (by omega) ?_
  intro A c w4 hown4 hgrow hg
  obtain ⟨hdeed, hfrom⟩ := DeedAt.outs_on hb hra hro hne HX.out.deed.now g3 hown4 hgrow hg
  have hb4 := hb3.grown hgrow (fun e => absurd (hro.lt x e).1 (by omega))
  have hbx4 := hbx3.grown hgrow (fun e => absurd (hro.lt w.heap.size e).2 (by omega))
  have hbx5 := hbx4.set_ne (a := ⟨x, 2, none⟩) (.slice A (E.outs.length + news.length) c) (by simp; omega)
  have d2 := hb4.cell 2
  have fz2 := hb4.free 2
  simp [deedCells] at d2
  have h5 : XAt (w4.setCell ⟨x, 2, none⟩ (.slice A (E.outs.length + news.length) c)) x i EE D := by
    rw [hT.out]
    exact HX.out.deed_on hdeed hfrom
  have hs4 := outS (c := ⟨⟨ra, rn, rc⟩, ⟨na, nn, nc⟩, st1, sp1, ca1, t1⟩) hbx4 hb4
  have HF := Lib.hid hfrom
  have H5 := Lib.hid h5
  have HBX := Lib.hid hbx5
  clear hbx2 hbx3 hbx4 hbx5 hb2 hb3 hb4 hro3 hown hown4 hgrow hg hdeed hfrom h5 hd2
  refine wpList_nil (Thn.mk ⟨hs4, ?_⟩)
  repeat ((refine seqS_take (v := ?_) rfl ?_ ?_); rotate_left; (focus (intro wS hS; unfold OutS CallS at hS; go_split_ands; go_simp; first | done | with_reducible rfl)); (simp only [Act.put, List.setIfInBounds_toArray, List.set_cons_zero, List.set_cons_succ]))
  refine seqS_last ?_
  go_wp2_with fail
  generalize w4.setCell ⟨x, 2, none⟩ (.slice A (E.outs.length + news.length) c) = w5 at *
  clear d2 fz2 hs4
  have hs5 : BaseS x i EE.now D.cf D.probe w5 := H5.out.baseS
  have HK := dep_keep i D _ (w5.drewN 1) (H5.out.drewN 1).dep (HC.out.fr (HF.out.drewN 1) (fun b _ e => .inr (.inr (Nat.le_trans HX.out.lim e))))
  unfold Cl.with_ CallR.val Sl.val at HK
  simp only at HK
  have HK2 := Lib.hid HK
  clear HK
  refine region_ord (BaseC x i EE.now D.cf D.probe w.heap.size ⟨⟨ra, rn, rc⟩, ⟨na, nn, nc⟩, st1, sp1, ca1, t1⟩) [(true, 0), (true, 1), (true, 2), (true, 3), (true, 4), (false, 5)] (by kernel_rfl) (by kernel_rfl) (fun _ _ d _ _ h => by cases d <;> exact h) ⟨hs5, callS HBX.out⟩ ?_
  simp only [opsAt, List.filterMap_cons, List.filterMap_nil, List.getElem?_toArray, List.getElem?_cons_zero, List.getElem?_cons_succ, Option.map_some]
  repeat ((refine seqS_take (v := ?_) rfl ?_ ?_); rotate_left; (focus (intro wS hS; unfold BaseC BaseS CallS at hS; go_split_ands; go_simp; first | done | with_reducible rfl)); (simp only [Act.put, List.setIfInBounds_toArray, List.set_cons_zero, List.set_cons_succ]))
  refine seqS_last ?_
  unfold Sl.val
  simp only
  go_wp2_with fail
  refine HK2.out.mono ?_
  rintro e w6 ⟨rfl, hd6, hf6⟩
  have h6 := Lib.hid (H5.out.dep_on hd6 (((Fr.refl _ _).drewN 1).trans hf6))
  have F6 := Lib.hid ((HF.out.fromT (i := i)).trans ((((Fr.refl _ _).drewN 1).trans hf6).depT (x := x)))
  clear hd6 hf6 HK2 hs5
  go_wp2_with fail
  go_end0
  refine ⟨rfl, ?_, F6.out⟩
  rw [HO.out]
  exact h6.out

end Go.Proofs.Ythnaieeaominjaa
