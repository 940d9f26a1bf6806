/-
  Package dep: Fallback.
-/
import Derived.Test.YthnaieeaominjaaAnswer
namespace Go.Proofs.Ythnaieeaominjaa
open Go.RowKit
set_option linter.unusedVariables false
set_option linter.unusedSimpArgs false

def Dp.loosed (D : Dp) (id step : Int) : Dp := { D with falls := (D.falls.free (id, step)).2 }
/-- What a fallback is told. -/
def Dp.fallbackOf (D : Dp) (now id step : Int) (ok : Bool) (vl : List Int) : Deed × Dp × Int :=
  if (D.falls.free (id, step)).1 = false then (⟨[], [], now⟩, D.loosed id step, 3)
  else if ¬ ((D.find id).r.state = 3 ∧ (D.find id).r.step = step) then (⟨[], [], now⟩, (D.loosed id step).keep (D.find id), 0)
  else if (ok && decide (vl.length = (D.find id).al.length)) = true then (⟨[⟨false, id, 0⟩], (D.find id).told 3 now vl, now⟩, (D.loosed id step).over (D.find id), 0)
  else (Deed.fall ⟨[⟨false, id, 0⟩], [], now⟩ (D.loosed id step) (D.find id) (D.find id).r.cause, (D.loosed id step).fall (D.find id) (D.find id).r.cause, 0)

set_option maxRecDepth 100000 in
set_option maxHeartbeats 3200000 in
theorem dep_fallback_none (i : DepIds) (D : Dp) (now id step : Int) (ok : Bool) (v : Sl) (vl : List Int) (w : World) (h : DepAt w i D) (hn : U64 now) (hv : Rd w (fun k => i.S k ∨ i.ex k) v 1 vl.length (ints vl)) (hf : (D.falls.free (id, step)).1 = false) :
    Calls Try.prog 17 #[.pointer (some ⟨i.d, 0, none⟩), .int .u64 now, .int .i64 id, .int .i64 step, .bool ok, v.val] w (ResPost w i (D.fallbackOf now id step ok vl).2.1 (D.fallbackOf now id step ok vl).1 (D.fallbackOf now id step ok vl).2.2) := by
  have hR : D.fallbackOf now id step ok vl = (⟨[], [], now⟩, D.loosed id step, 3) := by unfold Dp.fallbackOf; rw [if_pos hf]
  rw [hR]
  dsimp only
  unfold Sl.val
  have hold := Lib.hid h.old
  have h0 := h.relim w.heap.size (Nat.le_refl _)
  have HV := Lib.hid (hv.mono (M' := DepIds.M { i with lim := w.heap.size }) (fun b hb e => by rcases e with e | e | e; exact .inl e; exact .inr e; simp only at e; omega))
  have HN := Lib.hid hn
  have g0 : Fr Nil w (w.alloc (.cells #[.slice none 0 0, .slice none 0 0] 62)) := (Fr.refl _ _).alloc _
  have hq0 := Blk.new w (.cells #[.slice none 0 0, .slice none 0 0] 62)
  have h1 := h0.nil g0
  have HB := permit_free i.fs i.fm D.falls (id, step) _ h1.falls
  rw [hf] at HB
  unfold hkey at HB
  simp only at HB
  have HB2 := Lib.hid HB
  have d1 := h1.cell 18
  simp [DepIds.cells] at d1
  have H1 := Lib.hid h1
  have HFd := Lib.hid (show D.loosed id step = { D with falls := (D.falls.free (id, step)).2 } from rfl)
  generalize D.loosed id step = DF at *
  clear h hv hn h0 h1 HB hf
  go_enter Try.func17, Try.ntmps17
  go_wp2_with fail
  refine HB2.out.mono ?_
  rintro e w1 ⟨rfl, hb1, hf1⟩
  have hfi : Fr i.S _ w1 := Only.inS (a := 7) (f := hf1)
  have h2 : DepAt w1 { i with lim := w.heap.size } DF := by
    rw [HFd.out]
    exact H1.out.upd_falls hb1 hf1
  have f1 : Fr i.S w w1 := (g0.mono (fun _ _ e => e.elim)).trans hfi
  have hq1 := hq0.fr hfi (fun e => Nat.lt_irrefl _ (hold.out _ e))
  have r0 := hq1.cell 0
  have r1 := hq1.cell 1
  have z0 := hq1.free 0
  have z1 := hq1.free 1
  simp at r0 r1
  have hq2 := (hq1.set 0 (.slice none 0 0)).set 1 (.slice none 0 0)
  have s0 := hq2.cell 0
  have s1 := hq2.cell 1
  simp at s0 s1
  have HFin := Lib.hid (DepAt.nothing (err := 3) (now := now) (q := w.heap.size) hold.out (Nat.le_refl _) h2 f1)
  clear d1 hb1 hf1 hfi h2 f1 hq0 hq1 hq2 g0
  go_wp2_with fail
  exact bodyPost_ret (v := .tuple #[.agg #[.slice none 0 0, .slice none 0 0], .int .i64 3]) (by simp [results, Try.results17, go_sem, s0, s1]) rfl HFin.out

set_option maxRecDepth 100000 in
set_option maxHeartbeats 3200000 in
theorem dep_fallback_keptA (i : DepIds) (D : Dp) (now id step : Int) (ok : Bool) (v : Sl) (vl : List Int) (w : World) (h : DepAt w i D) (hn : U64 now) (hv : Rd w (fun k => i.S k ∨ i.ex k) v 1 vl.length (ints vl)) (hf : (D.falls.free (id, step)).1 = true) (hs0 : (D.find id).r.state ≠ 3) :
    Calls Try.prog 17 #[.pointer (some ⟨i.d, 0, none⟩), .int .u64 now, .int .i64 id, .int .i64 step, .bool ok, v.val] w (ResPost w i (D.fallbackOf now id step ok vl).2.1 (D.fallbackOf now id step ok vl).1 (D.fallbackOf now id step ok vl).2.2) := by
  have hst : ¬ ((D.find id).r.state = 3 ∧ (D.find id).r.step = step) := fun e => hs0 e.1
  have hR : D.fallbackOf now id step ok vl = (⟨[], [], now⟩, (D.loosed id step).keep (D.find id), 0) := by unfold Dp.fallbackOf; rw [if_neg (by rw [hf]; simp), if_pos hst]
  rw [hR]
  dsimp only
  unfold Sl.val
  have hold := Lib.hid h.old
  have h0 := h.relim w.heap.size (Nat.le_refl _)
  have HV := Lib.hid (hv.mono (M' := DepIds.M { i with lim := w.heap.size }) (fun b hb e => by rcases e with e | e | e; exact .inl e; exact .inr e; simp only at e; omega))
  have HN := Lib.hid hn
  have g0 : Fr Nil w (w.alloc (.cells #[.slice none 0 0, .slice none 0 0] 62)) := (Fr.refl _ _).alloc _
  have hq0 := Blk.new w (.cells #[.slice none 0 0, .slice none 0 0] 62)
  have h1 := h0.nil g0
  have HB := permit_free i.fs i.fm D.falls (id, step) _ h1.falls
  rw [hf] at HB
  unfold hkey at HB
  simp only at HB
  have HB2 := Lib.hid HB
  have d1 := h1.cell 18
  simp [DepIds.cells] at d1
  have H1 := Lib.hid h1
  have HFd := Lib.hid (show D.loosed id step = { D with falls := (D.falls.free (id, step)).2 } from rfl)
  generalize D.loosed id step = DF at *
  have hsb : ((D.find id).r.state != 3) = true := by simpa using hs0
  generalize hcc : D.find id = c at *
  have HCC := Lib.hid hcc
  clear hcc
  clear hst hs0
  clear h hR hv hn h0 h1 HB hf
  go_enter Try.func17, Try.ntmps17
  go_wp2_with fail
  refine HB2.out.mono ?_
  rintro e w1 ⟨rfl, hb1, hf1⟩
  have hfi : Fr i.S _ w1 := Only.inS (a := 7) (f := hf1)
  have h2 : DepAt w1 { i with lim := w.heap.size } DF := by
    rw [HFd.out]
    exact H1.out.upd_falls hb1 hf1
  have f1 : Fr i.S w w1 := (g0.mono (fun _ _ e => e.elim)).trans hfi
  have hq1 := hq0.fr hfi (fun e => Nat.lt_irrefl _ (hold.out _ e))
  have hqx := hq1.lt
  have hx2 := XAt.start h2 (show DepIds.lim { i with lim := w.heap.size } ≤ w1.heap.size from f1.size) now HN.out
  have hq2 := hq1.alloc (.cells #[.pointer (some ⟨i.d, 0, none⟩), .slice none 0 0, .slice none 0 0, .int .u64 now] 113)
  have f2 := f1.alloc (.cells #[.pointer (some ⟨i.d, 0, none⟩), .slice none 0 0, .slice none 0 0, .int .u64 now] 113)
  have HFind := Lib.hid (show DF.find id = D.find id by rw [HFd.out]; rfl)
  have hlook := hx2.dep.look id
  rw [HFind.out, HCC.out] at hlook
  have hcat := hx2.dep.find_at id
  rw [HFind.out, HCC.out] at hcat
  have d1x := hx2.dep.cell 21
  simp [DepIds.cells] at d1x
  have hsz2 : (w1.alloc (.cells #[.pointer (some ⟨i.d, 0, none⟩), .slice none 0 0, .slice none 0 0, .int .u64 now] 113)).heap.size = w1.heap.size + 1 := World.size_alloc _ _
  have hb3 := Blk.new (w1.alloc (.cells #[.pointer (some ⟨i.d, 0, none⟩), .slice none 0 0, .slice none 0 0, .int .u64 now] 113)) (.cells c.r.cells 116)
  rw [hsz2] at hb3
  have hx3 := hx2.nil ((Fr.refl _ _).alloc (.cells c.r.cells 116))
  have HD2 := Lib.hid hx2.deed
  have HSz2 := Lib.hid hsz2
  have hq3 := hq2.alloc (.cells c.r.cells 116)
  have f3 := f2.alloc (.cells c.r.cells 116)
  have f23 : Fr Nil (w1.alloc (.cells #[.pointer (some ⟨i.d, 0, none⟩), .slice none 0 0, .slice none 0 0, .int .u64 now] 113)) ((w1.alloc (.cells #[.pointer (some ⟨i.d, 0, none⟩), .slice none 0 0, .slice none 0 0, .int .u64 now] 113)).alloc (.cells c.r.cells 116)) := (Fr.refl _ _).alloc _
  have hcat3 := hcat.fr f23 (fun _ _ e => e.elim)
  unfold CallR.val Sl.val at hlook
  unfold CallR.cells Sl.val at *
  clear d1 hb1 hf1 hfi hq0 hq1 hq2 g0 h2 hx2 f1 f2 hsz2 hcat
  go_wp2_with fail
  generalize hW2 : (w1.alloc (.cells #[.pointer (some ⟨i.d, 0, none⟩), .slice none 0 0, .slice none 0 0, .int .u64 now] 113)) = w2 at *
  clear hlook d1x hW2
  generalize hW3 : w2.alloc (.cells #[.slice c.r.args.at_ c.r.args.len c.r.args.cap, .slice c.r.members.at_ c.r.members.len c.r.members.cap, .int .i64 c.r.state, .int .i64 c.r.step, .int .i64 c.r.cause, .int .u64 c.r.start] 116) = w3 at *
  clear hW3
  have HCat3 := Lib.hid hcat3
  have HX3 := Lib.hid hx3
  clear hcat3 hx3
  have hs3 : BaseS w1.heap.size { i with lim := w.heap.size } now DF.cf DF.probe w3 := HX3.out.baseS
  have HK := dep_keep { i with lim := w.heap.size } DF c (w3.drewN 1) (HX3.out.drewN 1).dep (HCat3.out.fr ((Fr.refl Nil _).drewN 1) (fun _ _ e => e.elim))
  unfold CallR.val Sl.val at HK
  have HK2 := Lib.hid HK
  clear HK
  refine region_ord (BaseC w1.heap.size { i with lim := w.heap.size } now DF.cf DF.probe (w1.heap.size + 1) c.r) [(true, 0), (true, 1), (true, 2), (true, 3), (true, 4), (false, 5)] (by kernel_rfl) (by kernel_rfl) (fun _ _ d _ _ h => by cases d <;> exact h) ⟨hs3, callS hb3⟩ ?_
  simp only [opsAt, List.filterMap_cons, List.filterMap_nil, List.getElem?_toArray, List.getElem?_cons_zero, List.getElem?_cons_succ, Option.map_some]
  repeat ((refine seqS_take (v := ?_) rfl ?_ ?_); rotate_left; (focus (intro wS hS; unfold BaseC BaseS CallS at hS; go_split_ands; go_simp; first | done | with_reducible rfl)); (simp only [Act.put, List.setIfInBounds_toArray, List.set_cons_zero, List.set_cons_succ]))
  refine seqS_last ?_
  unfold Sl.val
  go_wp2_with fail
  refine HK2.out.mono ?_
  rintro e w4 ⟨rfl, hd4, hf4⟩
  have h4 := (HX3.out.drewN 1).dep_on hd4 hf4
  have hq4 := (hq3.drewN 1).fr hf4 (fun e => Nat.lt_irrefl _ (hold.out _ e))
  have F4 : Fr (DepIds.T { i with lim := w.heap.size } w1.heap.size) w w4 := ((f3.drewN 1).trans hf4).mono (fun _ _ e => .inl e)
  clear hd4 hf4 hq3 hb3 hs3 f3 HK2 f23 HX3 HCat3
  obtain ⟨va, vo, ft1, ft2, fr⟩ := h4.deed.told
  obtain ⟨fA, fn, fa, fO, fm, fo, rfl, rfl⟩ := fr.shape
  have fr0 := hq4.cell 0
  have fr1 := hq4.cell 1
  have fz0 := hq4.free 0
  have fz1 := hq4.free 1
  simp at fr0 fr1
  have fq2 := (hq4.set 0 (.slice fA fn fa)).set 1 (.slice fO fm fo)
  have fs0 := fq2.cell 0
  have fs1 := fq2.cell 1
  simp at fs0 fs1
  have HFin := Lib.hid (XAt.finish (w := w) (err := 0) hold.out (Nat.le_refl _) h4 fr hqx F4)
  clear fq2 fr
  go_wp2_with fail
  exact bodyPost_ret (v := .tuple #[.agg #[.slice fA fn fa, .slice fO fm fo], .int .i64 0]) (by simp [results, Try.results17, go_sem, fs0, fs1]) rfl HFin.out

set_option maxRecDepth 100000 in
set_option maxHeartbeats 3200000 in
theorem dep_fallback_keptB (i : DepIds) (D : Dp) (now id step : Int) (ok : Bool) (v : Sl) (vl : List Int) (w : World) (h : DepAt w i D) (hn : U64 now) (hv : Rd w (fun k => i.S k ∨ i.ex k) v 1 vl.length (ints vl)) (hf : (D.falls.free (id, step)).1 = true) (hs0 : (D.find id).r.state = 3) (hs1 : (D.find id).r.step ≠ step) :
    Calls Try.prog 17 #[.pointer (some ⟨i.d, 0, none⟩), .int .u64 now, .int .i64 id, .int .i64 step, .bool ok, v.val] w (ResPost w i (D.fallbackOf now id step ok vl).2.1 (D.fallbackOf now id step ok vl).1 (D.fallbackOf now id step ok vl).2.2) := by
  have hst : ¬ ((D.find id).r.state = 3 ∧ (D.find id).r.step = step) := fun e => hs1 e.2
  have hR : D.fallbackOf now id step ok vl = (⟨[], [], now⟩, (D.loosed id step).keep (D.find id), 0) := by unfold Dp.fallbackOf; rw [if_neg (by rw [hf]; simp), if_pos hst]
  rw [hR]
  dsimp only
  unfold Sl.val
  have hold := Lib.hid h.old
  have h0 := h.relim w.heap.size (Nat.le_refl _)
  have HV := Lib.hid (hv.mono (M' := DepIds.M { i with lim := w.heap.size }) (fun b hb e => by rcases e with e | e | e; exact .inl e; exact .inr e; simp only at e; omega))
  have HN := Lib.hid hn
  have g0 : Fr Nil w (w.alloc (.cells #[.slice none 0 0, .slice none 0 0] 62)) := (Fr.refl _ _).alloc _
  have hq0 := Blk.new w (.cells #[.slice none 0 0, .slice none 0 0] 62)
  have h1 := h0.nil g0
  have HB := permit_free i.fs i.fm D.falls (id, step) _ h1.falls
  rw [hf] at HB
  unfold hkey at HB
  simp only at HB
  have HB2 := Lib.hid HB
  have d1 := h1.cell 18
  simp [DepIds.cells] at d1
  have H1 := Lib.hid h1
  have HFd := Lib.hid (show D.loosed id step = { D with falls := (D.falls.free (id, step)).2 } from rfl)
  generalize D.loosed id step = DF at *
  have hsb : ((D.find id).r.state != 3) = false := by simpa using hs0
  have hsb2 : ((D.find id).r.step != step) = true := by simpa using hs1
  generalize hcc : D.find id = c at *
  have HCC := Lib.hid hcc
  clear hcc
  clear hst hs0 hs1
  clear h hR hv hn h0 h1 HB hf
  go_enter Try.func17, Try.ntmps17
  go_wp2_with fail
  refine HB2.out.mono ?_
  rintro e w1 ⟨rfl, hb1, hf1⟩
  have hfi : Fr i.S _ w1 := Only.inS (a := 7) (f := hf1)
  have h2 : DepAt w1 { i with lim := w.heap.size } DF := by
    rw [HFd.out]
    exact H1.out.upd_falls hb1 hf1
  have f1 : Fr i.S w w1 := (g0.mono (fun _ _ e => e.elim)).trans hfi
  have hq1 := hq0.fr hfi (fun e => Nat.lt_irrefl _ (hold.out _ e))
  have hqx := hq1.lt
  have hx2 := XAt.start h2 (show DepIds.lim { i with lim := w.heap.size } ≤ w1.heap.size from f1.size) now HN.out
  have hq2 := hq1.alloc (.cells #[.pointer (some ⟨i.d, 0, none⟩), .slice none 0 0, .slice none 0 0, .int .u64 now] 113)
  have f2 := f1.alloc (.cells #[.pointer (some ⟨i.d, 0, none⟩), .slice none 0 0, .slice none 0 0, .int .u64 now] 113)
  have HFind := Lib.hid (show DF.find id = D.find id by rw [HFd.out]; rfl)
  have hlook := hx2.dep.look id
  rw [HFind.out, HCC.out] at hlook
  have hcat := hx2.dep.find_at id
  rw [HFind.out, HCC.out] at hcat
  have d1x := hx2.dep.cell 21
  simp [DepIds.cells] at d1x
  have hsz2 : (w1.alloc (.cells #[.pointer (some ⟨i.d, 0, none⟩), .slice none 0 0, .slice none 0 0, .int .u64 now] 113)).heap.size = w1.heap.size + 1 := World.size_alloc _ _
  have hb3 := Blk.new (w1.alloc (.cells #[.pointer (some ⟨i.d, 0, none⟩), .slice none 0 0, .slice none 0 0, .int .u64 now] 113)) (.cells c.r.cells 116)
  rw [hsz2] at hb3
  have hx3 := hx2.nil ((Fr.refl _ _).alloc (.cells c.r.cells 116))
  have HD2 := Lib.hid hx2.deed
  have HSz2 := Lib.hid hsz2
  have hq3 := hq2.alloc (.cells c.r.cells 116)
  have f3 := f2.alloc (.cells c.r.cells 116)
  have f23 : Fr Nil (w1.alloc (.cells #[.pointer (some ⟨i.d, 0, none⟩), .slice none 0 0, .slice none 0 0, .int .u64 now] 113)) ((w1.alloc (.cells #[.pointer (some ⟨i.d, 0, none⟩), .slice none 0 0, .slice none 0 0, .int .u64 now] 113)).alloc (.cells c.r.cells 116)) := (Fr.refl _ _).alloc _
  have hcat3 := hcat.fr f23 (fun _ _ e => e.elim)
  unfold CallR.val Sl.val at hlook
  unfold CallR.cells Sl.val at *
  clear d1 hb1 hf1 hfi hq0 hq1 hq2 g0 h2 hx2 f1 f2 hsz2 hcat
  go_wp2_with fail
  generalize hW2 : (w1.alloc (.cells #[.pointer (some ⟨i.d, 0, none⟩), .slice none 0 0, .slice none 0 0, .int .u64 now] 113)) = w2 at *
  clear hlook d1x hW2
  generalize hW3 : w2.alloc (.cells #[.slice c.r.args.at_ c.r.args.len c.r.args.cap, .slice c.r.members.at_ c.r.members.len c.r.members.cap, .int .i64 c.r.state, .int .i64 c.r.step, .int .i64 c.r.cause, .int .u64 c.r.start] 116) = w3 at *
  clear hW3
  have HCat3 := Lib.hid hcat3
  have HX3 := Lib.hid hx3
  clear hcat3 hx3
  have hs3 : BaseS w1.heap.size { i with lim := w.heap.size } now DF.cf DF.probe w3 := HX3.out.baseS
  have HK := dep_keep { i with lim := w.heap.size } DF c (w3.drewN 1) (HX3.out.drewN 1).dep (HCat3.out.fr ((Fr.refl Nil _).drewN 1) (fun _ _ e => e.elim))
  unfold CallR.val Sl.val at HK
  have HK2 := Lib.hid HK
  clear HK
  refine region_ord (BaseC w1.heap.size { i with lim := w.heap.size } now DF.cf DF.probe (w1.heap.size + 1) c.r) [(true, 0), (true, 1), (true, 2), (true, 3), (true, 4), (false, 5)] (by kernel_rfl) (by kernel_rfl) (fun _ _ d _ _ h => by cases d <;> exact h) ⟨hs3, callS hb3⟩ ?_
  simp only [opsAt, List.filterMap_cons, List.filterMap_nil, List.getElem?_toArray, List.getElem?_cons_zero, List.getElem?_cons_succ, Option.map_some]
  repeat ((refine seqS_take (v := ?_) rfl ?_ ?_); rotate_left; (focus (intro wS hS; unfold BaseC BaseS CallS at hS; go_split_ands; go_simp; first | done | with_reducible rfl)); (simp only [Act.put, List.setIfInBounds_toArray, List.set_cons_zero, List.set_cons_succ]))
  refine seqS_last ?_
  unfold Sl.val
  go_wp2_with fail
  refine HK2.out.mono ?_
  rintro e w4 ⟨rfl, hd4, hf4⟩
  have h4 := (HX3.out.drewN 1).dep_on hd4 hf4
  have hq4 := (hq3.drewN 1).fr hf4 (fun e => Nat.lt_irrefl _ (hold.out _ e))
  have F4 : Fr (DepIds.T { i with lim := w.heap.size } w1.heap.size) w w4 := ((f3.drewN 1).trans hf4).mono (fun _ _ e => .inl e)
  clear hd4 hf4 hq3 hb3 hs3 f3 HK2 f23 HX3 HCat3
  obtain ⟨va, vo, ft1, ft2, fr⟩ := h4.deed.told
  obtain ⟨fA, fn, fa, fO, fm, fo, rfl, rfl⟩ := fr.shape
  have fr0 := hq4.cell 0
  have fr1 := hq4.cell 1
  have fz0 := hq4.free 0
  have fz1 := hq4.free 1
  simp at fr0 fr1
  have fq2 := (hq4.set 0 (.slice fA fn fa)).set 1 (.slice fO fm fo)
  have fs0 := fq2.cell 0
  have fs1 := fq2.cell 1
  simp at fs0 fs1
  have HFin := Lib.hid (XAt.finish (w := w) (err := 0) hold.out (Nat.le_refl _) h4 fr hqx F4)
  clear fq2 fr
  go_wp2_with fail
  exact bodyPost_ret (v := .tuple #[.agg #[.slice fA fn fa, .slice fO fm fo], .int .i64 0]) (by simp [results, Try.results17, go_sem, fs0, fs1]) rfl HFin.out

set_option maxRecDepth 100000 in
set_option maxHeartbeats 3200000 in
theorem dep_fallback_falls (i : DepIds) (D : Dp) (now id step : Int) (ok : Bool) (v : Sl) (vl : List Int) (w : World) (h : DepAt w i D) (hn : U64 now) (hv : Rd w (fun k => i.S k ∨ i.ex k) v 1 vl.length (ints vl)) (hf : (D.falls.free (id, step)).1 = true) (hst : (D.find id).r.state = 3 ∧ (D.find id).r.step = step) (hok : (ok && decide (vl.length = (D.find id).al.length)) = false) :
    Calls Try.prog 17 #[.pointer (some ⟨i.d, 0, none⟩), .int .u64 now, .int .i64 id, .int .i64 step, .bool ok, v.val] w (ResPost w i (D.fallbackOf now id step ok vl).2.1 (D.fallbackOf now id step ok vl).1 (D.fallbackOf now id step ok vl).2.2) := by
  have hR : D.fallbackOf now id step ok vl = (Deed.fall ⟨[⟨false, id, 0⟩], [], now⟩ (D.loosed id step) (D.find id) (D.find id).r.cause, (D.loosed id step).fall (D.find id) (D.find id).r.cause, 0) := by unfold Dp.fallbackOf; rw [if_neg (by rw [hf]; simp), if_neg (by rw [Classical.not_not]; exact hst), if_neg (by rw [hok]; simp)]
  rw [hR]
  dsimp only
  unfold Sl.val
  have hvl := hv.1
  have hal := (h.find_at id).args.1
  have hold := Lib.hid h.old
  have h0 := h.relim w.heap.size (Nat.le_refl _)
  have HV := Lib.hid (hv.mono (M' := DepIds.M { i with lim := w.heap.size }) (fun b hb e => by rcases e with e | e | e; exact .inl e; exact .inr e; simp only at e; omega))
  have HN := Lib.hid hn
  have g0 : Fr Nil w (w.alloc (.cells #[.slice none 0 0, .slice none 0 0] 62)) := (Fr.refl _ _).alloc _
  have hq0 := Blk.new w (.cells #[.slice none 0 0, .slice none 0 0] 62)
  have h1 := h0.nil g0
  have HB := permit_free i.fs i.fm D.falls (id, step) _ h1.falls
  rw [hf] at HB
  unfold hkey at HB
  simp only at HB
  have HB2 := Lib.hid HB
  have d1 := h1.cell 18
  simp [DepIds.cells] at d1
  have H1 := Lib.hid h1
  have HFd := Lib.hid (show D.loosed id step = { D with falls := (D.falls.free (id, step)).2 } from rfl)
  generalize D.loosed id step = DF at *
  have hsb : ((D.find id).r.state != 3) = false := by simpa using hst.1
  have hsb2 : ((D.find id).r.step != step) = false := by simpa using hst.2
  have hlen : (ok && ((v.len : Int) == ((D.find id).r.args.len : Int))) = false := by
    rw [hvl, hal]
    cases ok
    · rfl
    · simp at hok ⊢
      omega
  generalize hcc : D.find id = c at *
  have HCC := Lib.hid hcc
  clear hcc
  have HStt := Lib.hid hst
  clear hst hvl hal hok
  clear h hR hv hn h0 h1 HB hf
  go_enter Try.func17, Try.ntmps17
  go_wp2_with fail
  refine HB2.out.mono ?_
  rintro e w1 ⟨rfl, hb1, hf1⟩
  have hfi : Fr i.S _ w1 := Only.inS (a := 7) (f := hf1)
  have h2 : DepAt w1 { i with lim := w.heap.size } DF := by
    rw [HFd.out]
    exact H1.out.upd_falls hb1 hf1
  have f1 : Fr i.S w w1 := (g0.mono (fun _ _ e => e.elim)).trans hfi
  have hq1 := hq0.fr hfi (fun e => Nat.lt_irrefl _ (hold.out _ e))
  have hqx := hq1.lt
  have hx2 := XAt.start h2 (show DepIds.lim { i with lim := w.heap.size } ≤ w1.heap.size from f1.size) now HN.out
  have hq2 := hq1.alloc (.cells #[.pointer (some ⟨i.d, 0, none⟩), .slice none 0 0, .slice none 0 0, .int .u64 now] 113)
  have f2 := f1.alloc (.cells #[.pointer (some ⟨i.d, 0, none⟩), .slice none 0 0, .slice none 0 0, .int .u64 now] 113)
  have HFind := Lib.hid (show DF.find id = D.find id by rw [HFd.out]; rfl)
  have hlook := hx2.dep.look id
  rw [HFind.out, HCC.out] at hlook
  have hcat := hx2.dep.find_at id
  rw [HFind.out, HCC.out] at hcat
  have d1x := hx2.dep.cell 21
  simp [DepIds.cells] at d1x
  have hsz2 : (w1.alloc (.cells #[.pointer (some ⟨i.d, 0, none⟩), .slice none 0 0, .slice none 0 0, .int .u64 now] 113)).heap.size = w1.heap.size + 1 := World.size_alloc _ _
  have hb3 := Blk.new (w1.alloc (.cells #[.pointer (some ⟨i.d, 0, none⟩), .slice none 0 0, .slice none 0 0, .int .u64 now] 113)) (.cells c.r.cells 116)
  rw [hsz2] at hb3
  have hx3 := hx2.nil ((Fr.refl _ _).alloc (.cells c.r.cells 116))
  have HD2 := Lib.hid hx2.deed
  have HSz2 := Lib.hid hsz2
  have hq3 := hq2.alloc (.cells c.r.cells 116)
  have f3 := f2.alloc (.cells c.r.cells 116)
  have f23 : Fr Nil (w1.alloc (.cells #[.pointer (some ⟨i.d, 0, none⟩), .slice none 0 0, .slice none 0 0, .int .u64 now] 113)) ((w1.alloc (.cells #[.pointer (some ⟨i.d, 0, none⟩), .slice none 0 0, .slice none 0 0, .int .u64 now] 113)).alloc (.cells c.r.cells 116)) := (Fr.refl _ _).alloc _
  have hcat3 := hcat.fr f23 (fun _ _ e => e.elim)
  unfold CallR.val Sl.val at hlook
  unfold CallR.cells Sl.val at *
  clear d1 hb1 hf1 hfi hq0 hq1 hq2 g0 h2 hx2 f1 f2 hsz2 hcat
  go_wp2_with fail
  generalize hW2 : (w1.alloc (.cells #[.pointer (some ⟨i.d, 0, none⟩), .slice none 0 0, .slice none 0 0, .int .u64 now] 113)) = w2 at *
  clear hlook d1x hW2
  generalize hW3 : w2.alloc (.cells #[.slice c.r.args.at_ c.r.args.len c.r.args.cap, .slice c.r.members.at_ c.r.members.len c.r.members.cap, .int .i64 c.r.state, .int .i64 c.r.step, .int .i64 c.r.cause, .int .u64 c.r.start] 116) = w3 at *
  clear hW3
  have HCat3 := Lib.hid hcat3
  have HX3 := Lib.hid hx3
  clear hcat3 hx3
  have d0x := HX3.out.baseS
  have HSt := Lib.hid (deed_stop w1.heap.size i.d ⟨[], [], now⟩ id w3 HX3.out.deed (by simp))
  clear d0x
  have p0 := hb3.cell 0
  have q0 := hb3.free 0
  have p1 := hb3.cell 1
  have q1 := hb3.free 1
  have p2 := hb3.cell 2
  have q2 := hb3.free 2
  have p3 := hb3.cell 3
  have q3 := hb3.free 3
  have p4 := hb3.cell 4
  have q4 := hb3.free 4
  have p5 := hb3.cell 5
  have q5 := hb3.free 5
  simp at p0 p1 p2 p3 p4 p5
  go_wp2_with fail
  refine HSt.out.mono ?_
  rintro e w4 ⟨rfl, hd4, hf4⟩
  have hfx : Fr (From w1.heap.size) w3 w4 := hf4.mono (fun k _ e => (HX3.out.deed.own_from e).1)
  have h4 := HX3.out.deed_on hd4 hfx
  have hb4 := hb3.fr hf4 (HD2.out.box_out (S := Nil) f23 (fun x => x) (by rw [HSz2.out]; exact Nat.le_refl _))
  have hq4 := hq3.fr hfx (fun e => by unfold From at e; omega)
  have F4 : Fr (DepIds.T { i with lim := w.heap.size } w1.heap.size) w w4 := (f3.mono (fun _ _ e => .inl e)).trans (hfx.mono (fun _ _ e => .inr e))
  have HCat4 := Lib.hid (HCat3.out.fr hfx (fun b _ e => .inr (.inr (by have := F4.size; have : w1.heap.size ≤ b := e; have := HX3.out.lim; omega))))
  have H4 := Lib.hid h4
  clear p0 p1 p2 p3 p4 p5 q0 q1 q2 q3 q4 q5
  clear hd4 hf4 hfx h4 HX3 HCat3 hb3 hq3 f3 f23 HSt
  have HF := Lib.hid (deed_fall w1.heap.size { i with lim := w.heap.size } _ _ c c.r.cause w4 H4.out HCat4.out (by simp) (by simp))
  unfold CallR.val Sl.val at HF
  have p0 := hb4.cell 0
  have q0 := hb4.free 0
  have p1 := hb4.cell 1
  have q1 := hb4.free 1
  have p2 := hb4.cell 2
  have q2 := hb4.free 2
  have p3 := hb4.cell 3
  have q3 := hb4.free 3
  have p4 := hb4.cell 4
  have q4 := hb4.free 4
  have p5 := hb4.cell 5
  have q5 := hb4.free 5
  simp at p0 p1 p2 p3 p4 p5
  cases ok
  all_goals
    simp only [Bool.true_and, Bool.false_and] at hlen
    go_wp2_with fail
    refine HF.out.mono ?_
    rintro e w6 ⟨rfl, h6, hf6⟩
    have hq6 := hq4.fr hf6 (fun e => by rcases e with e | e; exact Nat.lt_irrefl _ (hold.out _ e); omega)
    have F6 := F4.trans hf6
    clear p0 p1 p2 p3 p4 p5 q0 q1 q2 q3 q4 q5 HF hf6 F4 hq4 hb4
    obtain ⟨va, vo, ft1, ft2, fr⟩ := h6.deed.told
    obtain ⟨fA, fn, fa, fO, fm, fo, rfl, rfl⟩ := fr.shape
    have fr0 := hq6.cell 0
    have fr1 := hq6.cell 1
    have fz0 := hq6.free 0
    have fz1 := hq6.free 1
    simp at fr0 fr1
    have fq2 := (hq6.set 0 (.slice fA fn fa)).set 1 (.slice fO fm fo)
    have fs0 := fq2.cell 0
    have fs1 := fq2.cell 1
    simp at fs0 fs1
    have HFin := Lib.hid (XAt.finish (w := w) (err := 0) hold.out (Nat.le_refl _) h6 fr hqx F6)
    clear fq2 fr
    go_wp2_with fail
    exact bodyPost_ret (v := .tuple #[.agg #[.slice fA fn fa, .slice fO fm fo], .int .i64 0]) (by simp [results, Try.results17, go_sem, fs0, fs1]) rfl HFin.out

set_option maxRecDepth 100000 in
set_option maxHeartbeats 3200000 in
theorem dep_fallback_done (i : DepIds) (D : Dp) (now id step : Int) (ok : Bool) (v : Sl) (vl : List Int) (w : World) (h : DepAt w i D) (hn : U64 now) (hv : Rd w (fun k => i.S k ∨ i.ex k) v 1 vl.length (ints vl)) (hf : (D.falls.free (id, step)).1 = true) (hst : (D.find id).r.state = 3 ∧ (D.find id).r.step = step) (hok : (ok && decide (vl.length = (D.find id).al.length)) = true) :
    Calls Try.prog 17 #[.pointer (some ⟨i.d, 0, none⟩), .int .u64 now, .int .i64 id, .int .i64 step, .bool ok, v.val] w (ResPost w i (D.fallbackOf now id step ok vl).2.1 (D.fallbackOf now id step ok vl).1 (D.fallbackOf now id step ok vl).2.2) := by
  have hR : D.fallbackOf now id step ok vl = (⟨[⟨false, id, 0⟩], (D.find id).told 3 now vl, now⟩, (D.loosed id step).over (D.find id), 0) := by unfold Dp.fallbackOf; rw [if_neg (by rw [hf]; simp), if_neg (by rw [Classical.not_not]; exact hst), if_pos hok]
  rw [hR]
  dsimp only
  unfold Sl.val
  have hvl := hv.1
  have hal := (h.find_at id).args.1
  have hold := Lib.hid h.old
  have h0 := h.relim w.heap.size (Nat.le_refl _)
  have HV := Lib.hid (hv.mono (M' := DepIds.M { i with lim := w.heap.size }) (fun b hb e => by rcases e with e | e | e; exact .inl e; exact .inr e; simp only at e; omega))
  have HN := Lib.hid hn
  have g0 : Fr Nil w (w.alloc (.cells #[.slice none 0 0, .slice none 0 0] 62)) := (Fr.refl _ _).alloc _
  have hq0 := Blk.new w (.cells #[.slice none 0 0, .slice none 0 0] 62)
  have h1 := h0.nil g0
  have HB := permit_free i.fs i.fm D.falls (id, step) _ h1.falls
  rw [hf] at HB
  unfold hkey at HB
  simp only at HB
  have HB2 := Lib.hid HB
  have d1 := h1.cell 18
  simp [DepIds.cells] at d1
  have H1 := Lib.hid h1
  have HFd := Lib.hid (show D.loosed id step = { D with falls := (D.falls.free (id, step)).2 } from rfl)
  generalize D.loosed id step = DF at *
  have hsb : ((D.find id).r.state != 3) = false := by simpa using hst.1
  have hsb2 : ((D.find id).r.step != step) = false := by simpa using hst.2
  obtain ⟨rfl, hlen⟩ : ok = true ∧ ((v.len : Int) == ((D.find id).r.args.len : Int)) = true := by
    rw [hvl, hal]
    cases ok
    · simp at hok
    · simp at hok ⊢
      omega
  generalize hcc : D.find id = c at *
  have HCC := Lib.hid hcc
  clear hcc
  have HStt := Lib.hid hst
  clear hst hvl hal hok
  clear h hR hv hn h0 h1 HB hf
  go_enter Try.func17, Try.ntmps17
  go_wp2_with fail
  refine HB2.out.mono ?_
  rintro e w1 ⟨rfl, hb1, hf1⟩
  have hfi : Fr i.S _ w1 := Only.inS (a := 7) (f := hf1)
  have h2 : DepAt w1 { i with lim := w.heap.size } DF := by
    rw [HFd.out]
    exact H1.out.upd_falls hb1 hf1
  have f1 : Fr i.S w w1 := (g0.mono (fun _ _ e => e.elim)).trans hfi
  have hq1 := hq0.fr hfi (fun e => Nat.lt_irrefl _ (hold.out _ e))
  have hqx := hq1.lt
  have hx2 := XAt.start h2 (show DepIds.lim { i with lim := w.heap.size } ≤ w1.heap.size from f1.size) now HN.out
  have hq2 := hq1.alloc (.cells #[.pointer (some ⟨i.d, 0, none⟩), .slice none 0 0, .slice none 0 0, .int .u64 now] 113)
  have f2 := f1.alloc (.cells #[.pointer (some ⟨i.d, 0, none⟩), .slice none 0 0, .slice none 0 0, .int .u64 now] 113)
  have HFind := Lib.hid (show DF.find id = D.find id by rw [HFd.out]; rfl)
  have hlook := hx2.dep.look id
  rw [HFind.out, HCC.out] at hlook
  have hcat := hx2.dep.find_at id
  rw [HFind.out, HCC.out] at hcat
  have d1x := hx2.dep.cell 21
  simp [DepIds.cells] at d1x
  have hsz2 : (w1.alloc (.cells #[.pointer (some ⟨i.d, 0, none⟩), .slice none 0 0, .slice none 0 0, .int .u64 now] 113)).heap.size = w1.heap.size + 1 := World.size_alloc _ _
  have hb3 := Blk.new (w1.alloc (.cells #[.pointer (some ⟨i.d, 0, none⟩), .slice none 0 0, .slice none 0 0, .int .u64 now] 113)) (.cells c.r.cells 116)
  rw [hsz2] at hb3
  have hx3 := hx2.nil ((Fr.refl _ _).alloc (.cells c.r.cells 116))
  have HD2 := Lib.hid hx2.deed
  have HSz2 := Lib.hid hsz2
  have hq3 := hq2.alloc (.cells c.r.cells 116)
  have f3 := f2.alloc (.cells c.r.cells 116)
  have f23 : Fr Nil (w1.alloc (.cells #[.pointer (some ⟨i.d, 0, none⟩), .slice none 0 0, .slice none 0 0, .int .u64 now] 113)) ((w1.alloc (.cells #[.pointer (some ⟨i.d, 0, none⟩), .slice none 0 0, .slice none 0 0, .int .u64 now] 113)).alloc (.cells c.r.cells 116)) := (Fr.refl _ _).alloc _
  have hcat3 := hcat.fr f23 (fun _ _ e => e.elim)
  unfold CallR.val Sl.val at hlook
  unfold CallR.cells Sl.val at *
  clear d1 hb1 hf1 hfi hq0 hq1 hq2 g0 h2 hx2 f1 f2 hsz2 hcat
  go_wp2_with fail
  generalize hW2 : (w1.alloc (.cells #[.pointer (some ⟨i.d, 0, none⟩), .slice none 0 0, .slice none 0 0, .int .u64 now] 113)) = w2 at *
  clear hlook d1x hW2
  generalize hW3 : w2.alloc (.cells #[.slice c.r.args.at_ c.r.args.len c.r.args.cap, .slice c.r.members.at_ c.r.members.len c.r.members.cap, .int .i64 c.r.state, .int .i64 c.r.step, .int .i64 c.r.cause, .int .u64 c.r.start] 116) = w3 at *
  clear hW3
  have HCat3 := Lib.hid hcat3
  have HX3 := Lib.hid hx3
  clear hcat3 hx3
  have d0x := HX3.out.baseS
  have HSt := Lib.hid (deed_stop w1.heap.size i.d ⟨[], [], now⟩ id w3 HX3.out.deed (by simp))
  clear d0x
  have p0 := hb3.cell 0
  have q0 := hb3.free 0
  have p1 := hb3.cell 1
  have q1 := hb3.free 1
  have p2 := hb3.cell 2
  have q2 := hb3.free 2
  have p3 := hb3.cell 3
  have q3 := hb3.free 3
  have p4 := hb3.cell 4
  have q4 := hb3.free 4
  have p5 := hb3.cell 5
  have q5 := hb3.free 5
  simp at p0 p1 p2 p3 p4 p5
  go_wp2_with fail
  refine HSt.out.mono ?_
  rintro e w4 ⟨rfl, hd4, hf4⟩
  have hfx : Fr (From w1.heap.size) w3 w4 := hf4.mono (fun k _ e => (HX3.out.deed.own_from e).1)
  have h4 := HX3.out.deed_on hd4 hfx
  have hb4 := hb3.fr hf4 (HD2.out.box_out (S := Nil) f23 (fun x => x) (by rw [HSz2.out]; exact Nat.le_refl _))
  have hq4 := hq3.fr hfx (fun e => by unfold From at e; omega)
  have F4 : Fr (DepIds.T { i with lim := w.heap.size } w1.heap.size) w w4 := (f3.mono (fun _ _ e => .inl e)).trans (hfx.mono (fun _ _ e => .inr e))
  have HCat4 := Lib.hid (HCat3.out.fr hfx (fun b _ e => .inr (.inr (by have := F4.size; have : w1.heap.size ≤ b := e; have := HX3.out.lim; omega))))
  have H4 := Lib.hid h4
  clear p0 p1 p2 p3 p4 p5 q0 q1 q2 q3 q4 q5
  clear hd4 hf4 hfx h4 HX3 HCat3 hb3 hq3 f3 f23 HSt
  have HEnd := Lib.hid (deed_end w1.heap.size { i with lim := w.heap.size } _ _ c 3 (.inr rfl) v vl w4 H4.out HCat4.out (HV.out.fr F4 (fun b _ e => by rcases e with e | e; exact .inl e; exact .inr (.inr (by have := H4.out.lim; omega)))) (by simp))
  unfold CallR.val Sl.val at HEnd
  have p0 := hb4.cell 0
  have q0 := hb4.free 0
  have p1 := hb4.cell 1
  have q1 := hb4.free 1
  have p2 := hb4.cell 2
  have q2 := hb4.free 2
  have p3 := hb4.cell 3
  have q3 := hb4.free 3
  have p4 := hb4.cell 4
  have q4 := hb4.free 4
  have p5 := hb4.cell 5
  have q5 := hb4.free 5
  simp at p0 p1 p2 p3 p4 p5
  go_wp2_with fail
  refine HEnd.out.mono ?_
  rintro e w7 ⟨rfl, h7, hf7⟩
  have hq7 := hq4.fr hf7 (fun e => by rcases e with e | e; exact Nat.lt_irrefl _ (hold.out _ e); omega)
  have F7 := F4.trans hf7
  clear p0 p1 p2 p3 p4 p5 q0 q1 q2 q3 q4 q5
  clear HEnd hf7 F4 hq4 hb4
  obtain ⟨va, vo, ft1, ft2, fr⟩ := h7.deed.told
  obtain ⟨fA, fn, fa, fO, fm, fo, rfl, rfl⟩ := fr.shape
  have fr0 := hq7.cell 0
  have fr1 := hq7.cell 1
  have fz0 := hq7.free 0
  have fz1 := hq7.free 1
  simp at fr0 fr1
  have fq2 := (hq7.set 0 (.slice fA fn fa)).set 1 (.slice fO fm fo)
  have fs0 := fq2.cell 0
  have fs1 := fq2.cell 1
  simp at fs0 fs1
  have HFin := Lib.hid (XAt.finish (w := w) (err := 0) hold.out (Nat.le_refl _) h7 fr hqx F7)
  clear fq2 fr
  go_wp2_with fail
  exact bodyPost_ret (v := .tuple #[.agg #[.slice fA fn fa, .slice fO fm fo], .int .i64 0]) (by simp [results, Try.results17, go_sem, fs0, fs1]) rfl HFin.out

theorem dep_fallback (i : DepIds) (D : Dp) (now id step : Int) (ok : Bool) (v : Sl) (vl : List Int) (w : World) (h : DepAt w i D) (hn : U64 now) (hv : Rd w (fun k => i.S k ∨ i.ex k) v 1 vl.length (ints vl)) :
    Calls Try.prog 17 #[.pointer (some ⟨i.d, 0, none⟩), .int .u64 now, .int .i64 id, .int .i64 step, .bool ok, v.val] w (ResPost w i (D.fallbackOf now id step ok vl).2.1 (D.fallbackOf now id step ok vl).1 (D.fallbackOf now id step ok vl).2.2) := by
  cases hf : (D.falls.free (id, step)).1
  · exact dep_fallback_none i D now id step ok v vl w h hn hv hf
  · by_cases hst : (D.find id).r.state = 3 ∧ (D.find id).r.step = step
    · cases hok : (ok && decide (vl.length = (D.find id).al.length))
      · exact dep_fallback_falls i D now id step ok v vl w h hn hv hf hst hok
      · exact dep_fallback_done i D now id step ok v vl w h hn hv hf hst hok
    · by_cases hs0 : (D.find id).r.state = 3
      · exact dep_fallback_keptB i D now id step ok v vl w h hn hv hf hs0 (fun e => hst ⟨hs0, e⟩)
      · exact dep_fallback_keptA i D now id step ok v vl w h hn hv hf hs0

end Go.Proofs.Ythnaieeaominjaa
