/-
  Package dep: Answer.
-/
import Derived.Test.YthnaieeaominjaaPick
namespace Go.Proofs.Ythnaieeaominjaa
open Go.RowKit
set_option linter.unusedVariables false
set_option linter.unusedSimpArgs false

def Dp.freed (D : Dp) (id : Int) : Dp := { D with bulk := (D.bulk.free id).2 }
/-- What one is told. -/
def Dp.answerOf (D : Dp) (now id : Int) (ok : Bool) (vl : List Int) : Deed × Dp × Int :=
  if (D.bulk.free id).1 = false then (⟨[], [], now⟩, D.freed id, 3)
  else if (D.find id).r.state ≠ 2 then (⟨[], [], now⟩, (D.freed id).keep (D.find id), 0)
  else if (!ok || decide (vl.length ≠ (D.find id).al.length)) = true then
    (Deed.fall ⟨[⟨false, id, 0⟩], [], now⟩ ((D.freed id).count now id 1) (D.find id) 1, ((D.freed id).count now id 1).fall (D.find id) 1, 0)
  else (⟨[⟨false, id, 0⟩], (D.find id).told 1 now vl, now⟩, ((D.freed id).count now id 0).over (D.find id), 0)

theorem DeedAt.box_out {w w' : World} {x d p : Nat} {E : Deed} {S : Nat → Prop} (h : DeedAt w x d E) (f : Fr S w w') (hS : ¬ S x) (hp : w.heap.size ≤ p) : ¬ DeedB w' x p := fun e => by
  have := h.own_old f hS e
  omega

set_option maxRecDepth 100000 in
set_option maxHeartbeats 3200000 in
theorem dep_answer_none (i : DepIds) (D : Dp) (now id : Int) (ok : Bool) (v : Sl) (vl : List Int) (w : World) (h : DepAt w i D) (hn : U64 now) (hv : Rd w (fun k => i.S k ∨ i.ex k) v 1 vl.length (ints vl)) (hf : (D.bulk.free id).1 = false) :
    Calls Try.prog 16 #[.pointer (some ⟨i.d, 0, none⟩), .int .u64 now, .int .i64 id, .bool ok, v.val] w (ResPost w i (D.answerOf now id ok vl).2.1 (D.answerOf now id ok vl).1 (D.answerOf now id ok vl).2.2) := by
  have hR : D.answerOf now id ok vl = (⟨[], [], now⟩, D.freed id, 3) := by unfold Dp.answerOf; rw [if_pos hf]
  rw [hR]
  dsimp only
  unfold Sl.val
  have hold := Lib.hid h.old
  have h0 := h.relim w.heap.size (Nat.le_refl _)
  have HV := Lib.hid (hv.mono (M' := DepIds.M { i with lim := w.heap.size }) (fun b hb e => by rcases e with e | e | e; exact .inl e; exact .inr e; simp only at e; omega))
  have HN := Lib.hid hn
  have g0 : Fr Nil w (w.alloc (.cells #[.slice none 0 0, .slice none 0 0] 62)) := (Fr.refl _ _).alloc _
  have hq0 := Blk.new w (.cells #[.slice none 0 0, .slice none 0 0] 62)
  have h1 := h0.nil g0
  have HB := bulk_free i.bulk D.bulk id _ h1.bulk
  rw [hf] at HB
  have HB2 := Lib.hid HB
  have d1 := h1.cell 1
  simp [DepIds.cells] at d1
  have H1 := Lib.hid h1
  have HFd := Lib.hid (show D.freed id = { D with bulk := (D.bulk.free id).2 } from rfl)
  generalize D.freed id = DF at *
  clear h hv hn h0 h1 HB hf
  go_enter Try.func16, Try.ntmps16
  go_wp2_with fail
  refine HB2.out.mono ?_
  rintro e w1 ⟨rfl, hb1, hf1⟩
  have hfi : Fr i.S _ w1 := hf1.mono (fun k _ e => by rcases e with e | e <;> cases e; exact i.mem 4; exact i.mem 5)
  have h2 : DepAt w1 { i with lim := w.heap.size } DF := by
    rw [HFd.out]
    exact H1.out.upd_bulk hb1 hf1
  have f1 : Fr i.S w w1 := (g0.mono (fun _ _ e => e.elim)).trans hfi
  have hq1 := hq0.fr hfi (fun e => Nat.lt_irrefl _ (hold.out _ e))
  have r0 := hq1.cell 0
  have r1 := hq1.cell 1
  have z0 := hq1.free 0
  have z1 := hq1.free 1
  simp at r0 r1
  have hq2 := (hq1.set 0 (.slice none 0 0)).set 1 (.slice none 0 0)
  have s0 := hq2.cell 0
  have s1 := hq2.cell 1
  simp at s0 s1
  have HFin := Lib.hid (DepAt.nothing (err := 3) (now := now) (q := w.heap.size) hold.out (Nat.le_refl _) h2 f1)
  clear d1 hb1 hf1 hfi h2 f1 hq0 hq1 hq2 g0
  go_wp2_with fail
  exact bodyPost_ret (v := .tuple #[.agg #[.slice none 0 0, .slice none 0 0], .int .i64 3]) (by simp [results, Try.results16, go_sem, s0, s1]) rfl HFin.out

set_option maxRecDepth 100000 in
set_option maxHeartbeats 3200000 in
theorem dep_answer_kept (i : DepIds) (D : Dp) (now id : Int) (ok : Bool) (v : Sl) (vl : List Int) (w : World) (h : DepAt w i D) (hn : U64 now) (hv : Rd w (fun k => i.S k ∨ i.ex k) v 1 vl.length (ints vl)) (hf : (D.bulk.free id).1 = true) (hst : (D.find id).r.state ≠ 2) :
    Calls Try.prog 16 #[.pointer (some ⟨i.d, 0, none⟩), .int .u64 now, .int .i64 id, .bool ok, v.val] w (ResPost w i (D.answerOf now id ok vl).2.1 (D.answerOf now id ok vl).1 (D.answerOf now id ok vl).2.2) := by
  have hR : D.answerOf now id ok vl = (⟨[], [], now⟩, (D.freed id).keep (D.find id), 0) := by unfold Dp.answerOf; rw [if_neg (by rw [hf]; simp), if_pos hst]
  rw [hR]
  dsimp only
  unfold Sl.val
  have hold := Lib.hid h.old
  have h0 := h.relim w.heap.size (Nat.le_refl _)
  have HV := Lib.hid (hv.mono (M' := DepIds.M { i with lim := w.heap.size }) (fun b hb e => by rcases e with e | e | e; exact .inl e; exact .inr e; simp only at e; omega))
  have HN := Lib.hid hn
  have g0 : Fr Nil w (w.alloc (.cells #[.slice none 0 0, .slice none 0 0] 62)) := (Fr.refl _ _).alloc _
  have hq0 := Blk.new w (.cells #[.slice none 0 0, .slice none 0 0] 62)
  have h1 := h0.nil g0
  have HB := bulk_free i.bulk D.bulk id _ h1.bulk
  rw [hf] at HB
  have HB2 := Lib.hid HB
  have d1 := h1.cell 1
  simp [DepIds.cells] at d1
  have H1 := Lib.hid h1
  have HFd := Lib.hid (show D.freed id = { D with bulk := (D.bulk.free id).2 } from rfl)
  generalize D.freed id = DF at *
  have hsb : ((D.find id).r.state != 2) = true := by simpa using hst
  generalize hcc : D.find id = c at *
  have HCC := Lib.hid hcc
  clear hcc
  clear hst
  clear h hR hv hn h0 h1 HB hf
  go_enter Try.func16, Try.ntmps16
  go_wp2_with fail
  refine HB2.out.mono ?_
  rintro e w1 ⟨rfl, hb1, hf1⟩
  have hfi : Fr i.S _ w1 := hf1.mono (fun k _ e => by rcases e with e | e <;> cases e; exact i.mem 4; exact i.mem 5)
  have h2 : DepAt w1 { i with lim := w.heap.size } DF := by
    rw [HFd.out]
    exact H1.out.upd_bulk hb1 hf1
  have f1 : Fr i.S w w1 := (g0.mono (fun _ _ e => e.elim)).trans hfi
  have hq1 := hq0.fr hfi (fun e => Nat.lt_irrefl _ (hold.out _ e))
  have hqx := hq1.lt
  have hx2 := XAt.start h2 (show DepIds.lim { i with lim := w.heap.size } ≤ w1.heap.size from f1.size) now HN.out
  have hq2 := hq1.alloc (.cells #[.pointer (some ⟨i.d, 0, none⟩), .slice none 0 0, .slice none 0 0, .int .u64 now] 113)
  have f2 := f1.alloc (.cells #[.pointer (some ⟨i.d, 0, none⟩), .slice none 0 0, .slice none 0 0, .int .u64 now] 113)
  have HFind := Lib.hid (show DF.find id = D.find id by rw [HFd.out]; rfl)
  have hlook := hx2.dep.look id
  rw [HFind.out, HCC.out] at hlook
  have hcat := hx2.dep.find_at id
  rw [HFind.out, HCC.out] at hcat
  have d1x := hx2.dep.cell 21
  simp [DepIds.cells] at d1x
  have hsz2 : (w1.alloc (.cells #[.pointer (some ⟨i.d, 0, none⟩), .slice none 0 0, .slice none 0 0, .int .u64 now] 113)).heap.size = w1.heap.size + 1 := World.size_alloc _ _
  have hb3 := Blk.new (w1.alloc (.cells #[.pointer (some ⟨i.d, 0, none⟩), .slice none 0 0, .slice none 0 0, .int .u64 now] 113)) (.cells c.r.cells 116)
  rw [hsz2] at hb3
  have hx3 := hx2.nil ((Fr.refl _ _).alloc (.cells c.r.cells 116))
  have HD2 := Lib.hid hx2.deed
  have HSz2 := Lib.hid hsz2
  have hq3 := hq2.alloc (.cells c.r.cells 116)
  have f3 := f2.alloc (.cells c.r.cells 116)
  have f23 : Fr Nil (w1.alloc (.cells #[.pointer (some ⟨i.d, 0, none⟩), .slice none 0 0, .slice none 0 0, .int .u64 now] 113)) ((w1.alloc (.cells #[.pointer (some ⟨i.d, 0, none⟩), .slice none 0 0, .slice none 0 0, .int .u64 now] 113)).alloc (.cells c.r.cells 116)) := (Fr.refl _ _).alloc _
  have hcat3 := hcat.fr f23 (fun _ _ e => e.elim)
  unfold CallR.val Sl.val at hlook
  unfold CallR.cells Sl.val at *
  clear d1 hb1 hf1 hfi hq0 hq1 hq2 g0 h2 hx2 f1 f2 hsz2 hcat
  go_wp2_with fail
  generalize hW2 : (w1.alloc (.cells #[.pointer (some ⟨i.d, 0, none⟩), .slice none 0 0, .slice none 0 0, .int .u64 now] 113)) = w2 at *
  clear hlook d1x hW2
  generalize hW3 : w2.alloc (.cells #[.slice c.r.args.at_ c.r.args.len c.r.args.cap, .slice c.r.members.at_ c.r.members.len c.r.members.cap, .int .i64 c.r.state, .int .i64 c.r.step, .int .i64 c.r.cause, .int .u64 c.r.start] 116) = w3 at *
  clear hW3
  have HCat3 := Lib.hid hcat3
  have HX3 := Lib.hid hx3
  clear hcat3 hx3
  have hs3 : BaseS w1.heap.size { i with lim := w.heap.size } now DF.cf DF.probe w3 := HX3.out.baseS
  have HK := dep_keep { i with lim := w.heap.size } DF c (w3.drewN 1) (HX3.out.drewN 1).dep (HCat3.out.fr ((Fr.refl Nil _).drewN 1) (fun _ _ e => e.elim))
  unfold CallR.val Sl.val at HK
  have HK2 := Lib.hid HK
  clear HK
  refine region_ord (BaseC w1.heap.size { i with lim := w.heap.size } now DF.cf DF.probe (w1.heap.size + 1) c.r) [(true, 0), (true, 1), (true, 2), (true, 3), (true, 4), (false, 5)] (by kernel_rfl) (by kernel_rfl) (fun _ _ d _ _ h => by cases d <;> exact h) ⟨hs3, callS hb3⟩ ?_
  simp only [opsAt, List.filterMap_cons, List.filterMap_nil, List.getElem?_toArray, List.getElem?_cons_zero, List.getElem?_cons_succ, Option.map_some]
  repeat ((refine seqS_take (v := ?_) rfl ?_ ?_); rotate_left; (focus (intro wS hS; unfold BaseC BaseS CallS at hS; go_split_ands; go_simp; first | done | with_reducible rfl)); (simp only [Act.put, List.setIfInBounds_toArray, List.set_cons_zero, List.set_cons_succ]))
  refine seqS_last ?_
  unfold Sl.val
  go_wp2_with fail
  refine HK2.out.mono ?_
  rintro e w4 ⟨rfl, hd4, hf4⟩
  have h4 := (HX3.out.drewN 1).dep_on hd4 hf4
  have hq4 := (hq3.drewN 1).fr hf4 (fun e => Nat.lt_irrefl _ (hold.out _ e))
  have F4 : Fr (DepIds.T { i with lim := w.heap.size } w1.heap.size) w w4 := ((f3.drewN 1).trans hf4).mono (fun _ _ e => .inl e)
  clear hd4 hf4 hq3 hb3 hs3 f3 HK2 f23 HX3 HCat3
  obtain ⟨va, vo, ft1, ft2, fr⟩ := h4.deed.told
  obtain ⟨fA, fn, fa, fO, fm, fo, rfl, rfl⟩ := fr.shape
  have fr0 := hq4.cell 0
  have fr1 := hq4.cell 1
  have fz0 := hq4.free 0
  have fz1 := hq4.free 1
  simp at fr0 fr1
  have fq2 := (hq4.set 0 (.slice fA fn fa)).set 1 (.slice fO fm fo)
  have fs0 := fq2.cell 0
  have fs1 := fq2.cell 1
  simp at fs0 fs1
  have HFin := Lib.hid (XAt.finish (w := w) (err := 0) hold.out (Nat.le_refl _) h4 fr hqx F4)
  clear fq2 fr
  go_wp2_with fail
  exact bodyPost_ret (v := .tuple #[.agg #[.slice fA fn fa, .slice fO fm fo], .int .i64 0]) (by simp [results, Try.results16, go_sem, fs0, fs1]) rfl HFin.out

set_option maxRecDepth 100000 in
set_option maxHeartbeats 3200000 in
theorem dep_answer_falls (i : DepIds) (D : Dp) (now id : Int) (ok : Bool) (v : Sl) (vl : List Int) (w : World) (h : DepAt w i D) (hn : U64 now) (hv : Rd w (fun k => i.S k ∨ i.ex k) v 1 vl.length (ints vl)) (hf : (D.bulk.free id).1 = true) (hst : (D.find id).r.state = 2) (hok : (!ok || decide (vl.length ≠ (D.find id).al.length)) = true) :
    Calls Try.prog 16 #[.pointer (some ⟨i.d, 0, none⟩), .int .u64 now, .int .i64 id, .bool ok, v.val] w (ResPost w i (D.answerOf now id ok vl).2.1 (D.answerOf now id ok vl).1 (D.answerOf now id ok vl).2.2) := by
  have hR : D.answerOf now id ok vl = (Deed.fall ⟨[⟨false, id, 0⟩], [], now⟩ ((D.freed id).count now id 1) (D.find id) 1, ((D.freed id).count now id 1).fall (D.find id) 1, 0) := by unfold Dp.answerOf; rw [if_neg (by rw [hf]; simp), if_neg (by rw [hst]; simp), if_pos hok]
  rw [hR]
  dsimp only
  unfold Sl.val
  have hvl := hv.1
  have hal := (h.find_at id).args.1
  have hold := Lib.hid h.old
  have h0 := h.relim w.heap.size (Nat.le_refl _)
  have HV := Lib.hid (hv.mono (M' := DepIds.M { i with lim := w.heap.size }) (fun b hb e => by rcases e with e | e | e; exact .inl e; exact .inr e; simp only at e; omega))
  have HN := Lib.hid hn
  have g0 : Fr Nil w (w.alloc (.cells #[.slice none 0 0, .slice none 0 0] 62)) := (Fr.refl _ _).alloc _
  have hq0 := Blk.new w (.cells #[.slice none 0 0, .slice none 0 0] 62)
  have h1 := h0.nil g0
  have HB := bulk_free i.bulk D.bulk id _ h1.bulk
  rw [hf] at HB
  have HB2 := Lib.hid HB
  have d1 := h1.cell 1
  simp [DepIds.cells] at d1
  have H1 := Lib.hid h1
  have HFd := Lib.hid (show D.freed id = { D with bulk := (D.bulk.free id).2 } from rfl)
  generalize D.freed id = DF at *
  have hsb : ((D.find id).r.state != 2) = false := by simpa using hst
  have hlen : (!ok || ((v.len : Int) != ((D.find id).r.args.len : Int))) = true := by
    rw [hvl, hal]
    cases ok
    · rfl
    · simp at hok ⊢
      omega
  generalize hcc : D.find id = c at *
  have HCC := Lib.hid hcc
  clear hcc
  have HStt := Lib.hid hst
  clear hst hvl hal hok
  clear h hR hv hn h0 h1 HB hf
  go_enter Try.func16, Try.ntmps16
  go_wp2_with fail
  refine HB2.out.mono ?_
  rintro e w1 ⟨rfl, hb1, hf1⟩
  have hfi : Fr i.S _ w1 := hf1.mono (fun k _ e => by rcases e with e | e <;> cases e; exact i.mem 4; exact i.mem 5)
  have h2 : DepAt w1 { i with lim := w.heap.size } DF := by
    rw [HFd.out]
    exact H1.out.upd_bulk hb1 hf1
  have f1 : Fr i.S w w1 := (g0.mono (fun _ _ e => e.elim)).trans hfi
  have hq1 := hq0.fr hfi (fun e => Nat.lt_irrefl _ (hold.out _ e))
  have hqx := hq1.lt
  have hx2 := XAt.start h2 (show DepIds.lim { i with lim := w.heap.size } ≤ w1.heap.size from f1.size) now HN.out
  have hq2 := hq1.alloc (.cells #[.pointer (some ⟨i.d, 0, none⟩), .slice none 0 0, .slice none 0 0, .int .u64 now] 113)
  have f2 := f1.alloc (.cells #[.pointer (some ⟨i.d, 0, none⟩), .slice none 0 0, .slice none 0 0, .int .u64 now] 113)
  have HFind := Lib.hid (show DF.find id = D.find id by rw [HFd.out]; rfl)
  have hlook := hx2.dep.look id
  rw [HFind.out, HCC.out] at hlook
  have hcat := hx2.dep.find_at id
  rw [HFind.out, HCC.out] at hcat
  have d1x := hx2.dep.cell 21
  simp [DepIds.cells] at d1x
  have hsz2 : (w1.alloc (.cells #[.pointer (some ⟨i.d, 0, none⟩), .slice none 0 0, .slice none 0 0, .int .u64 now] 113)).heap.size = w1.heap.size + 1 := World.size_alloc _ _
  have hb3 := Blk.new (w1.alloc (.cells #[.pointer (some ⟨i.d, 0, none⟩), .slice none 0 0, .slice none 0 0, .int .u64 now] 113)) (.cells c.r.cells 116)
  rw [hsz2] at hb3
  have hx3 := hx2.nil ((Fr.refl _ _).alloc (.cells c.r.cells 116))
  have HD2 := Lib.hid hx2.deed
  have HSz2 := Lib.hid hsz2
  have hq3 := hq2.alloc (.cells c.r.cells 116)
  have f3 := f2.alloc (.cells c.r.cells 116)
  have f23 : Fr Nil (w1.alloc (.cells #[.pointer (some ⟨i.d, 0, none⟩), .slice none 0 0, .slice none 0 0, .int .u64 now] 113)) ((w1.alloc (.cells #[.pointer (some ⟨i.d, 0, none⟩), .slice none 0 0, .slice none 0 0, .int .u64 now] 113)).alloc (.cells c.r.cells 116)) := (Fr.refl _ _).alloc _
  have hcat3 := hcat.fr f23 (fun _ _ e => e.elim)
  unfold CallR.val Sl.val at hlook
  unfold CallR.cells Sl.val at *
  clear d1 hb1 hf1 hfi hq0 hq1 hq2 g0 h2 hx2 f1 f2 hsz2 hcat
  go_wp2_with fail
  generalize hW2 : (w1.alloc (.cells #[.pointer (some ⟨i.d, 0, none⟩), .slice none 0 0, .slice none 0 0, .int .u64 now] 113)) = w2 at *
  clear hlook d1x hW2
  generalize hW3 : w2.alloc (.cells #[.slice c.r.args.at_ c.r.args.len c.r.args.cap, .slice c.r.members.at_ c.r.members.len c.r.members.cap, .int .i64 c.r.state, .int .i64 c.r.step, .int .i64 c.r.cause, .int .u64 c.r.start] 116) = w3 at *
  clear hW3
  have HCat3 := Lib.hid hcat3
  have HX3 := Lib.hid hx3
  clear hcat3 hx3
  have d0x := HX3.out.baseS
  have HSt := Lib.hid (deed_stop w1.heap.size i.d ⟨[], [], now⟩ id w3 HX3.out.deed (by simp))
  clear d0x
  have p0 := hb3.cell 0
  have q0 := hb3.free 0
  have p1 := hb3.cell 1
  have q1 := hb3.free 1
  have p2 := hb3.cell 2
  have q2 := hb3.free 2
  have p3 := hb3.cell 3
  have q3 := hb3.free 3
  have p4 := hb3.cell 4
  have q4 := hb3.free 4
  have p5 := hb3.cell 5
  have q5 := hb3.free 5
  simp at p0 p1 p2 p3 p4 p5
  go_wp2_with fail
  refine HSt.out.mono ?_
  rintro e w4 ⟨rfl, hd4, hf4⟩
  have hfx : Fr (From w1.heap.size) w3 w4 := hf4.mono (fun k _ e => (HX3.out.deed.own_from e).1)
  have h4 := HX3.out.deed_on hd4 hfx
  have hb4 := hb3.fr hf4 (HD2.out.box_out (S := Nil) f23 (fun x => x) (by rw [HSz2.out]; exact Nat.le_refl _))
  have hq4 := hq3.fr hfx (fun e => by unfold From at e; omega)
  have F4 : Fr (DepIds.T { i with lim := w.heap.size } w1.heap.size) w w4 := (f3.mono (fun _ _ e => .inl e)).trans (hfx.mono (fun _ _ e => .inr e))
  have HCat4 := Lib.hid (HCat3.out.fr hfx (fun b _ e => .inr (.inr (by have := F4.size; have : w1.heap.size ≤ b := e; have := HX3.out.lim; omega))))
  have H4 := Lib.hid h4
  clear p0 p1 p2 p3 p4 p5 q0 q1 q2 q3 q4 q5
  clear hd4 hf4 hfx h4 HX3 HCat3 hb3 hq3 f3 f23 HSt
  have HCt := deed_count w1.heap.size { i with lim := w.heap.size } _ DF id 1 (by omega) w4 H4.out
  have HCt2 := Lib.hid HCt
  clear HCt
  have p0 := hb4.cell 0
  have q0 := hb4.free 0
  have p1 := hb4.cell 1
  have q1 := hb4.free 1
  have p2 := hb4.cell 2
  have q2 := hb4.free 2
  have p3 := hb4.cell 3
  have q3 := hb4.free 3
  have p4 := hb4.cell 4
  have q4 := hb4.free 4
  have p5 := hb4.cell 5
  have q5 := hb4.free 5
  simp at p0 p1 p2 p3 p4 p5
  cases ok
  all_goals
    simp only [Bool.not_true, Bool.not_false, Bool.true_or, Bool.false_or] at hlen
    go_wp2_with fail
    refine HCt2.out.mono ?_
    rintro e w5 ⟨rfl, h5, hf5⟩
    have hb5 := hb4.fr hf5 (fun e => by have := H4.out.below _ e; omega)
    have hq5 := hq4.fr hf5 (fun e => Nat.lt_irrefl _ (hold.out _ e))
    have F5 : Fr (DepIds.T { i with lim := w.heap.size } w1.heap.size) w w5 := F4.trans (hf5.mono (fun _ _ e => .inl e))
    have HF := Lib.hid (deed_fall w1.heap.size { i with lim := w.heap.size } _ _ c 1 w5 h5 (HCat4.out.fr hf5 (fun _ _ e => .inl e)) (by simp) (by simp))
    unfold CallR.val Sl.val at HF
    clear p0 p1 p2 p3 p4 p5 q0 q1 q2 q3 q4 q5 HCt2 F4 hq4 hb4 h5 hf5
    have p0 := hb5.cell 0
    have q0 := hb5.free 0
    have p1 := hb5.cell 1
    have q1 := hb5.free 1
    have p2 := hb5.cell 2
    have q2 := hb5.free 2
    have p3 := hb5.cell 3
    have q3 := hb5.free 3
    have p4 := hb5.cell 4
    have q4 := hb5.free 4
    have p5 := hb5.cell 5
    have q5 := hb5.free 5
    simp at p0 p1 p2 p3 p4 p5
    go_wp2_with fail
    refine HF.out.mono ?_
    rintro e w6 ⟨rfl, h6, hf6⟩
    have hq6 := hq5.fr hf6 (fun e => by rcases e with e | e; exact Nat.lt_irrefl _ (hold.out _ e); omega)
    have F6 := F5.trans hf6
    clear p0 p1 p2 p3 p4 p5 q0 q1 q2 q3 q4 q5 HF hf6 F5 hq5 hb5
    obtain ⟨va, vo, ft1, ft2, fr⟩ := h6.deed.told
    obtain ⟨fA, fn, fa, fO, fm, fo, rfl, rfl⟩ := fr.shape
    have fr0 := hq6.cell 0
    have fr1 := hq6.cell 1
    have fz0 := hq6.free 0
    have fz1 := hq6.free 1
    simp at fr0 fr1
    have fq2 := (hq6.set 0 (.slice fA fn fa)).set 1 (.slice fO fm fo)
    have fs0 := fq2.cell 0
    have fs1 := fq2.cell 1
    simp at fs0 fs1
    have HFin := Lib.hid (XAt.finish (w := w) (err := 0) hold.out (Nat.le_refl _) h6 fr hqx F6)
    clear fq2 fr
    go_wp2_with fail
    exact bodyPost_ret (v := .tuple #[.agg #[.slice fA fn fa, .slice fO fm fo], .int .i64 0]) (by simp [results, Try.results16, go_sem, fs0, fs1]) rfl HFin.out

set_option maxRecDepth 100000 in
set_option maxHeartbeats 3200000 in
theorem dep_answer_done (i : DepIds) (D : Dp) (now id : Int) (ok : Bool) (v : Sl) (vl : List Int) (w : World) (h : DepAt w i D) (hn : U64 now) (hv : Rd w (fun k => i.S k ∨ i.ex k) v 1 vl.length (ints vl)) (hf : (D.bulk.free id).1 = true) (hst : (D.find id).r.state = 2) (hok : (!ok || decide (vl.length ≠ (D.find id).al.length)) = false) :
    Calls Try.prog 16 #[.pointer (some ⟨i.d, 0, none⟩), .int .u64 now, .int .i64 id, .bool ok, v.val] w (ResPost w i (D.answerOf now id ok vl).2.1 (D.answerOf now id ok vl).1 (D.answerOf now id ok vl).2.2) := by
  have hR : D.answerOf now id ok vl = (⟨[⟨false, id, 0⟩], (D.find id).told 1 now vl, now⟩, ((D.freed id).count now id 0).over (D.find id), 0) := by unfold Dp.answerOf; rw [if_neg (by rw [hf]; simp), if_neg (by rw [hst]; simp), if_neg (by rw [hok]; simp)]
  rw [hR]
  dsimp only
  unfold Sl.val
  have hvl := hv.1
  have hal := (h.find_at id).args.1
  have hold := Lib.hid h.old
  have h0 := h.relim w.heap.size (Nat.le_refl _)
  have HV := Lib.hid (hv.mono (M' := DepIds.M { i with lim := w.heap.size }) (fun b hb e => by rcases e with e | e | e; exact .inl e; exact .inr e; simp only at e; omega))
  have HN := Lib.hid hn
  have g0 : Fr Nil w (w.alloc (.cells #[.slice none 0 0, .slice none 0 0] 62)) := (Fr.refl _ _).alloc _
  have hq0 := Blk.new w (.cells #[.slice none 0 0, .slice none 0 0] 62)
  have h1 := h0.nil g0
  have HB := bulk_free i.bulk D.bulk id _ h1.bulk
  rw [hf] at HB
  have HB2 := Lib.hid HB
  have d1 := h1.cell 1
  simp [DepIds.cells] at d1
  have H1 := Lib.hid h1
  have HFd := Lib.hid (show D.freed id = { D with bulk := (D.bulk.free id).2 } from rfl)
  generalize D.freed id = DF at *
  have hsb : ((D.find id).r.state != 2) = false := by simpa using hst
  obtain ⟨rfl, hlen⟩ : ok = true ∧ ((v.len : Int) != ((D.find id).r.args.len : Int)) = false := by
    rw [hvl, hal]
    cases ok
    · simp at hok
    · simp at hok ⊢
      omega
  generalize hcc : D.find id = c at *
  have HCC := Lib.hid hcc
  clear hcc
  have HStt := Lib.hid hst
  clear hst hvl hal hok
  clear h hR hv hn h0 h1 HB hf
  go_enter Try.func16, Try.ntmps16
  go_wp2_with fail
  refine HB2.out.mono ?_
  rintro e w1 ⟨rfl, hb1, hf1⟩
  have hfi : Fr i.S _ w1 := hf1.mono (fun k _ e => by rcases e with e | e <;> cases e; exact i.mem 4; exact i.mem 5)
  have h2 : DepAt w1 { i with lim := w.heap.size } DF := by
    rw [HFd.out]
    exact H1.out.upd_bulk hb1 hf1
  have f1 : Fr i.S w w1 := (g0.mono (fun _ _ e => e.elim)).trans hfi
  have hq1 := hq0.fr hfi (fun e => Nat.lt_irrefl _ (hold.out _ e))
  have hqx := hq1.lt
  have hx2 := XAt.start h2 (show DepIds.lim { i with lim := w.heap.size } ≤ w1.heap.size from f1.size) now HN.out
  have hq2 := hq1.alloc (.cells #[.pointer (some ⟨i.d, 0, none⟩), .slice none 0 0, .slice none 0 0, .int .u64 now] 113)
  have f2 := f1.alloc (.cells #[.pointer (some ⟨i.d, 0, none⟩), .slice none 0 0, .slice none 0 0, .int .u64 now] 113)
  have HFind := Lib.hid (show DF.find id = D.find id by rw [HFd.out]; rfl)
  have hlook := hx2.dep.look id
  rw [HFind.out, HCC.out] at hlook
  have hcat := hx2.dep.find_at id
  rw [HFind.out, HCC.out] at hcat
  have d1x := hx2.dep.cell 21
  simp [DepIds.cells] at d1x
  have hsz2 : (w1.alloc (.cells #[.pointer (some ⟨i.d, 0, none⟩), .slice none 0 0, .slice none 0 0, .int .u64 now] 113)).heap.size = w1.heap.size + 1 := World.size_alloc _ _
  have hb3 := Blk.new (w1.alloc (.cells #[.pointer (some ⟨i.d, 0, none⟩), .slice none 0 0, .slice none 0 0, .int .u64 now] 113)) (.cells c.r.cells 116)
  rw [hsz2] at hb3
  have hx3 := hx2.nil ((Fr.refl _ _).alloc (.cells c.r.cells 116))
  have HD2 := Lib.hid hx2.deed
  have HSz2 := Lib.hid hsz2
  have hq3 := hq2.alloc (.cells c.r.cells 116)
  have f3 := f2.alloc (.cells c.r.cells 116)
  have f23 : Fr Nil (w1.alloc (.cells #[.pointer (some ⟨i.d, 0, none⟩), .slice none 0 0, .slice none 0 0, .int .u64 now] 113)) ((w1.alloc (.cells #[.pointer (some ⟨i.d, 0, none⟩), .slice none 0 0, .slice none 0 0, .int .u64 now] 113)).alloc (.cells c.r.cells 116)) := (Fr.refl _ _).alloc _
  have hcat3 := hcat.fr f23 (fun _ _ e => e.elim)
  unfold CallR.val Sl.val at hlook
  unfold CallR.cells Sl.val at *
  clear d1 hb1 hf1 hfi hq0 hq1 hq2 g0 h2 hx2 f1 f2 hsz2 hcat
  go_wp2_with fail
  generalize hW2 : (w1.alloc (.cells #[.pointer (some ⟨i.d, 0, none⟩), .slice none 0 0, .slice none 0 0, .int .u64 now] 113)) = w2 at *
  clear hlook d1x hW2
  generalize hW3 : w2.alloc (.cells #[.slice c.r.args.at_ c.r.args.len c.r.args.cap, .slice c.r.members.at_ c.r.members.len c.r.members.cap, .int .i64 c.r.state, .int .i64 c.r.step, .int .i64 c.r.cause, .int .u64 c.r.start] 116) = w3 at *
  clear hW3
  have HCat3 := Lib.hid hcat3
  have HX3 := Lib.hid hx3
  clear hcat3 hx3
  have d0x := HX3.out.baseS
  have HSt := Lib.hid (deed_stop w1.heap.size i.d ⟨[], [], now⟩ id w3 HX3.out.deed (by simp))
  clear d0x
  have p0 := hb3.cell 0
  have q0 := hb3.free 0
  have p1 := hb3.cell 1
  have q1 := hb3.free 1
  have p2 := hb3.cell 2
  have q2 := hb3.free 2
  have p3 := hb3.cell 3
  have q3 := hb3.free 3
  have p4 := hb3.cell 4
  have q4 := hb3.free 4
  have p5 := hb3.cell 5
  have q5 := hb3.free 5
  simp at p0 p1 p2 p3 p4 p5
  go_wp2_with fail
  refine HSt.out.mono ?_
  rintro e w4 ⟨rfl, hd4, hf4⟩
  have hfx : Fr (From w1.heap.size) w3 w4 := hf4.mono (fun k _ e => (HX3.out.deed.own_from e).1)
  have h4 := HX3.out.deed_on hd4 hfx
  have hb4 := hb3.fr hf4 (HD2.out.box_out (S := Nil) f23 (fun x => x) (by rw [HSz2.out]; exact Nat.le_refl _))
  have hq4 := hq3.fr hfx (fun e => by unfold From at e; omega)
  have F4 : Fr (DepIds.T { i with lim := w.heap.size } w1.heap.size) w w4 := (f3.mono (fun _ _ e => .inl e)).trans (hfx.mono (fun _ _ e => .inr e))
  have HCat4 := Lib.hid (HCat3.out.fr hfx (fun b _ e => .inr (.inr (by have := F4.size; have : w1.heap.size ≤ b := e; have := HX3.out.lim; omega))))
  have H4 := Lib.hid h4
  clear p0 p1 p2 p3 p4 p5 q0 q1 q2 q3 q4 q5
  clear hd4 hf4 hfx h4 HX3 HCat3 hb3 hq3 f3 f23 HSt
  have HCt := deed_count w1.heap.size { i with lim := w.heap.size } _ DF id 0 (by omega) w4 H4.out
  have HCt2 := Lib.hid HCt
  clear HCt
  have p0 := hb4.cell 0
  have q0 := hb4.free 0
  have p1 := hb4.cell 1
  have q1 := hb4.free 1
  have p2 := hb4.cell 2
  have q2 := hb4.free 2
  have p3 := hb4.cell 3
  have q3 := hb4.free 3
  have p4 := hb4.cell 4
  have q4 := hb4.free 4
  have p5 := hb4.cell 5
  have q5 := hb4.free 5
  simp at p0 p1 p2 p3 p4 p5
  go_wp2_with fail
  refine HCt2.out.mono ?_
  rintro e w5 ⟨rfl, h5, hf5⟩
  have hb5 := hb4.fr hf5 (fun e => by have := H4.out.below _ e; omega)
  have hq5 := hq4.fr hf5 (fun e => Nat.lt_irrefl _ (hold.out _ e))
  have F5 : Fr (DepIds.T { i with lim := w.heap.size } w1.heap.size) w w5 := F4.trans (hf5.mono (fun _ _ e => .inl e))
  have HCat5 := Lib.hid (HCat4.out.fr hf5 (fun _ _ e => .inl e))
  have hs5 : BaseS w1.heap.size { i with lim := w.heap.size } now _ _ w5 := h5.baseS
  have HSub := fun W => Lib.hid (sat_sub now c.r.start W HN.out HCat5.out.start)
  have HAdd := Lib.hid (hist_add i.hist now (ssub now c.r.start) (w5.drewN 1) (h5.drewN 1).dep.hist HN.out (ssub_u64 HN.out HCat5.out.start))
  have H5 := Lib.hid h5
  clear p0 p1 p2 p3 p4 p5 q0 q1 q2 q3 q4 q5 HCt2 F4 hq4 hb4 h5 hf5 HCat4 H4
  generalize ssub now c.r.start = took at *
  go_wp2_with fail
  refine region_ord (BaseC w1.heap.size { i with lim := w.heap.size } now _ _ (w1.heap.size + 1) c.r) [(true, 0), (true, 1), (true, 2), (true, 3), (true, 4), (true, 5), (true, 6), (true, 7), (false, 8), (false, 9)] (by kernel_rfl) (by kernel_rfl) (fun _ _ d _ _ h => by cases d <;> exact h) ⟨hs5, callS hb5⟩ ?_
  simp only [opsAt, List.filterMap_cons, List.filterMap_nil, List.getElem?_toArray, List.getElem?_cons_zero, List.getElem?_cons_succ, Option.map_some]
  repeat ((refine seqS_take (v := ?_) rfl ?_ ?_); rotate_left; (focus (intro wS hS; unfold BaseC BaseS CallS at hS; go_split_ands; go_simp; first | done | with_reducible rfl)); (simp only [Act.put, List.setIfInBounds_toArray, List.set_cons_zero, List.set_cons_succ]))
  refine seqS_more ?_
  go_wp2_with fail
  refine (HSub _).out.mono ?_
  rintro e w5' ⟨rfl, rfl⟩
  go_wp2_with fail
  refine Thn.mk ⟨⟨hs5, callS hb5⟩, ?_⟩
  refine seqS_last ?_
  go_wp2_with fail
  refine HAdd.out.mono ?_
  rintro e w6 ⟨rfl, hh6, hf6⟩
  have hfi6 : Fr i.S (w5.drewN 1) w6 := Only.inS (a := 9) (f := hf6)
  have h6 := (H5.out.drewN 1).dep_on ((H5.out.drewN 1).dep.upd_hist hh6 hf6) hfi6
  have hb6 := (hb5.drewN 1).fr hfi6 (fun e => by have := H5.out.below _ e; omega)
  have hq6 := (hq5.drewN 1).fr hfi6 (fun e => Nat.lt_irrefl _ (hold.out _ e))
  have F6 : Fr (DepIds.T { i with lim := w.heap.size } w1.heap.size) w w6 := (F5.drewN 1).trans (hfi6.mono (fun _ _ e => .inl e))
  have HEnd := Lib.hid (deed_end w1.heap.size { i with lim := w.heap.size } _ _ c 1 (.inl rfl) v vl w6 h6 (HCat5.out.fr (((Fr.refl _ _).drewN 1).trans hfi6) (fun _ _ e => .inl e)) (HV.out.fr F6 (fun b _ e => by rcases e with e | e; exact .inl e; exact .inr (.inr (by have := H5.out.lim; omega)))) (by simp))
  unfold CallR.val Sl.val at HEnd
  clear hh6 hf6 hfi6 h6 F5 hq5 hb5 hs5 HAdd HSub HCat5 H5
  have p0 := hb6.cell 0
  have q0 := hb6.free 0
  have p1 := hb6.cell 1
  have q1 := hb6.free 1
  have p2 := hb6.cell 2
  have q2 := hb6.free 2
  have p3 := hb6.cell 3
  have q3 := hb6.free 3
  have p4 := hb6.cell 4
  have q4 := hb6.free 4
  have p5 := hb6.cell 5
  have q5 := hb6.free 5
  simp at p0 p1 p2 p3 p4 p5
  go_wp2_with fail
  refine HEnd.out.mono ?_
  rintro e w7 ⟨rfl, h7, hf7⟩
  have hq7 := hq6.fr hf7 (fun e => by rcases e with e | e; exact Nat.lt_irrefl _ (hold.out _ e); omega)
  have F7 := F6.trans hf7
  clear p0 p1 p2 p3 p4 p5 q0 q1 q2 q3 q4 q5
  clear HEnd hf7 F6 hq6 hb6
  obtain ⟨va, vo, ft1, ft2, fr⟩ := h7.deed.told
  obtain ⟨fA, fn, fa, fO, fm, fo, rfl, rfl⟩ := fr.shape
  have fr0 := hq7.cell 0
  have fr1 := hq7.cell 1
  have fz0 := hq7.free 0
  have fz1 := hq7.free 1
  simp at fr0 fr1
  have fq2 := (hq7.set 0 (.slice fA fn fa)).set 1 (.slice fO fm fo)
  have fs0 := fq2.cell 0
  have fs1 := fq2.cell 1
  simp at fs0 fs1
  have HFin := Lib.hid (XAt.finish (w := w) (err := 0) hold.out (Nat.le_refl _) h7 fr hqx F7)
  clear fq2 fr
  go_wp2_with fail
  exact bodyPost_ret (v := .tuple #[.agg #[.slice fA fn fa, .slice fO fm fo], .int .i64 0]) (by simp [results, Try.results16, go_sem, fs0, fs1]) rfl HFin.out

theorem dep_answer (i : DepIds) (D : Dp) (now id : Int) (ok : Bool) (v : Sl) (vl : List Int) (w : World) (h : DepAt w i D) (hn : U64 now) (hv : Rd w (fun k => i.S k ∨ i.ex k) v 1 vl.length (ints vl)) :
    Calls Try.prog 16 #[.pointer (some ⟨i.d, 0, none⟩), .int .u64 now, .int .i64 id, .bool ok, v.val] w (ResPost w i (D.answerOf now id ok vl).2.1 (D.answerOf now id ok vl).1 (D.answerOf now id ok vl).2.2) := by
  cases hf : (D.bulk.free id).1
  · exact dep_answer_none i D now id ok v vl w h hn hv hf
  · by_cases hst : (D.find id).r.state = 2
    · cases hok : (!ok || decide (vl.length ≠ (D.find id).al.length))
      · exact dep_answer_done i D now id ok v vl w h hn hv hf hst hok
      · exact dep_answer_falls i D now id ok v vl w h hn hv hf hst hok
    · exact dep_answer_kept i D now id ok v vl w h hn hv hf hst

end Go.Proofs.Ythnaieeaominjaa
