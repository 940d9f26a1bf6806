/-
  Package dep: Late.
-/
import Derived.Test.YthnaieeaominjaaFallback
namespace Go.Proofs.Ythnaieeaominjaa
open Go.RowKit
set_option linter.unusedVariables false
set_option linter.unusedSimpArgs false

def Dp.dropped (D : Dp) (id : Int) : Dp := { D with bulk := (D.bulk.drop id).2 }
/-- A call's timer comes. -/
def Dp.lateOf (D : Dp) (now id : Int) : Deed × Dp :=
  if D.knows id = false then (⟨[], [], now⟩, D)
  else if (D.find id).r.state = 4 then (⟨[], [], now⟩, D)
  else if (D.find id).r.state = 1 then (Deed.fall ⟨[], [], now⟩ ((D.dropped id).count now id 2) (D.find id) 2, ((D.dropped id).count now id 2).fall (D.find id) 2)
  else if (D.find id).r.state = 2 then (Deed.fall ⟨[], [], now⟩ (D.count now id 2) (D.find id) 2, (D.count now id 2).fall (D.find id) 2)
  else (Deed.fall ⟨[], [], now⟩ D (D.find id) 2, D.fall (D.find id) 2)
def LatePost (w : World) (i : DepIds) (D' : Dp) (E : Deed) (e : Ending) (w' : World) : Prop :=
  ∃ va vo, e = .returned (.agg #[va, vo]) ∧ RowsAt w' w.heap.size va vo E ∧ DepAt w' { i with lim := w'.heap.size } D' ∧ Fr i.S w w'
theorem XAt.finishL {w W : World} {x q : Nat} {i : DepIds} {E : Deed} {D : Dp} {va vo : Value} (hold : ∀ k, i.S k → k < w.heap.size) (hq : w.heap.size ≤ q) (hx : XAt W x { i with lim := w.heap.size } E D) (hr : RowsAt W (x + 1) va vo E) (hqx : q < x) (f : Fr (DepIds.T { i with lim := w.heap.size } x) w W) :
    LatePost w i D E (.returned (.agg #[va, vo])) ((W.setCell ⟨q, 0, none⟩ va).setCell ⟨q, 1, none⟩ vo) := by
  obtain ⟨va', vo', he, hr', hd, hf⟩ := XAt.finish (err := 0) hold hq hx hr hqx f
  simp only [Ending.returned.injEq, Value.tuple.injEq] at he
  have h1 : va = va' ∧ vo = vo' := by simpa using he
  obtain ⟨rfl, rfl⟩ := h1
  exact ⟨va, vo, rfl, hr', hd, hf⟩

set_option maxRecDepth 100000 in
set_option maxHeartbeats 3200000 in
theorem dep_late_none (i : DepIds) (D : Dp) (now id : Int) (w : World) (h : DepAt w i D) (hn : U64 now) (hk : D.knows id = false) :
    Calls Try.prog 18 #[.pointer (some ⟨i.d, 0, none⟩), .int .u64 now, .int .i64 id] w (LatePost w i (D.lateOf now id).2 (D.lateOf now id).1) := by
  have hR : D.lateOf now id = (⟨[], [], now⟩, D) := by unfold Dp.lateOf; rw [if_pos hk]
  rw [hR]
  dsimp only
  have hold := Lib.hid h.old
  have HN := Lib.hid hn
  have g0 : Fr Nil w (w.alloc (.cells #[.slice none 0 0, .slice none 0 0] 62)) := (Fr.refl _ _).alloc _
  have hx2 := XAt.start ((h.relim w.heap.size (Nat.le_refl _)).nil g0) (show DepIds.lim { i with lim := w.heap.size } ≤ (w.alloc (.cells #[.slice none 0 0, .slice none 0 0] 62)).heap.size from g0.size) now hn
  rw [World.size_alloc] at hx2
  have g2 : Fr Nil w ((w.alloc (.cells #[.slice none 0 0, .slice none 0 0] 62)).alloc (.cells #[.pointer (some ⟨i.d, 0, none⟩), .slice none 0 0, .slice none 0 0, .int .u64 now] 113)) := g0.alloc _
  have hq2 := (Blk.new w (.cells #[.slice none 0 0, .slice none 0 0] 62)).alloc (.cells #[.pointer (some ⟨i.d, 0, none⟩), .slice none 0 0, .slice none 0 0, .int .u64 now] 113)
  have HK := Lib.hid (dep_knows { i with lim := w.heap.size } D id ((w.alloc (.cells #[.slice none 0 0, .slice none 0 0] 62)).alloc (.cells #[.pointer (some ⟨i.d, 0, none⟩), .slice none 0 0, .slice none 0 0, .int .u64 now] 113)) hx2.dep)
  rw [hk] at HK
  have HX := Lib.hid hx2
  have hqx : w.heap.size < w.heap.size + 1 := Nat.lt_succ_self _
  have hsz2 : ((w.alloc (.cells #[.slice none 0 0, .slice none 0 0] 62)).alloc (.cells #[.pointer (some ⟨i.d, 0, none⟩), .slice none 0 0, .slice none 0 0, .int .u64 now] 113)).heap.size = w.heap.size + 1 + 1 := by rw [World.size_alloc, World.size_alloc]
  have HSz := Lib.hid hsz2
  clear h hn hR hk g0 hx2 hsz2
  go_enter Try.func18, Try.ntmps18
  go_wp2_with fail
  generalize ((w.alloc (.cells #[.slice none 0 0, .slice none 0 0] 62)).alloc (.cells #[.pointer (some ⟨i.d, 0, none⟩), .slice none 0 0, .slice none 0 0, .int .u64 now] 113)) = w2 at *
  refine HK.out.mono ?_
  rintro e w3 ⟨rfl, hf3⟩
  have h3 := HX.out.nil hf3
  have g3 := g2.trans hf3
  have hq3 := hq2.fr hf3 (fun x => x)
  have F3 : Fr (DepIds.T { i with lim := w.heap.size } (w.heap.size + 1)) w w3 := g3.nilT
  clear hf3 hq2 g2 g3 HK
  obtain ⟨va, vo, ft1, ft2, fr⟩ := h3.deed.told
  obtain ⟨fA, fn, fa, fO, fm, fo, rfl, rfl⟩ := fr.shape
  have fr0 := hq3.cell 0
  have fr1 := hq3.cell 1
  have fz0 := hq3.free 0
  have fz1 := hq3.free 1
  simp at fr0 fr1
  have fq2 := (hq3.set 0 (.slice fA fn fa)).set 1 (.slice fO fm fo)
  have fs0 := fq2.cell 0
  have fs1 := fq2.cell 1
  simp at fs0 fs1
  have HFin := Lib.hid (XAt.finishL (w := w) hold.out (Nat.le_refl _) h3 fr hqx F3)
  clear fq2 fr
  go_wp2_with fail
  exact bodyPost_ret (v := .agg #[.slice fA fn fa, .slice fO fm fo]) (by simp [results, Try.results18, go_sem, fs0, fs1]) rfl HFin.out

set_option maxRecDepth 100000 in
set_option maxHeartbeats 3200000 in
theorem dep_late_over (i : DepIds) (D : Dp) (now id : Int) (w : World) (h : DepAt w i D) (hn : U64 now) (hk : D.knows id = true) (hst : (D.find id).r.state = 4) :
    Calls Try.prog 18 #[.pointer (some ⟨i.d, 0, none⟩), .int .u64 now, .int .i64 id] w (LatePost w i (D.lateOf now id).2 (D.lateOf now id).1) := by
  have hR : D.lateOf now id = (⟨[], [], now⟩, D) := by unfold Dp.lateOf; rw [if_neg (by rw [hk]; simp), if_pos hst]
  rw [hR]
  dsimp only
  have hold := Lib.hid h.old
  have HN := Lib.hid hn
  have g0 : Fr Nil w (w.alloc (.cells #[.slice none 0 0, .slice none 0 0] 62)) := (Fr.refl _ _).alloc _
  have hx2 := XAt.start ((h.relim w.heap.size (Nat.le_refl _)).nil g0) (show DepIds.lim { i with lim := w.heap.size } ≤ (w.alloc (.cells #[.slice none 0 0, .slice none 0 0] 62)).heap.size from g0.size) now hn
  rw [World.size_alloc] at hx2
  have g2 : Fr Nil w ((w.alloc (.cells #[.slice none 0 0, .slice none 0 0] 62)).alloc (.cells #[.pointer (some ⟨i.d, 0, none⟩), .slice none 0 0, .slice none 0 0, .int .u64 now] 113)) := g0.alloc _
  have hq2 := (Blk.new w (.cells #[.slice none 0 0, .slice none 0 0] 62)).alloc (.cells #[.pointer (some ⟨i.d, 0, none⟩), .slice none 0 0, .slice none 0 0, .int .u64 now] 113)
  have HK := Lib.hid (dep_knows { i with lim := w.heap.size } D id ((w.alloc (.cells #[.slice none 0 0, .slice none 0 0] 62)).alloc (.cells #[.pointer (some ⟨i.d, 0, none⟩), .slice none 0 0, .slice none 0 0, .int .u64 now] 113)) hx2.dep)
  rw [hk] at HK
  have HX := Lib.hid hx2
  have hqx : w.heap.size < w.heap.size + 1 := Nat.lt_succ_self _
  have hsz2 : ((w.alloc (.cells #[.slice none 0 0, .slice none 0 0] 62)).alloc (.cells #[.pointer (some ⟨i.d, 0, none⟩), .slice none 0 0, .slice none 0 0, .int .u64 now] 113)).heap.size = w.heap.size + 1 + 1 := by rw [World.size_alloc, World.size_alloc]
  have HSz := Lib.hid hsz2
  have hs4 : ((D.find id).r.state == 4) = true := by simp [hst]
  generalize hcc : D.find id = c at *
  have HCC := Lib.hid hcc
  clear hcc
  have HSt := Lib.hid hst
  clear h hn hR hk g0 hx2 hsz2 hst
  go_enter Try.func18, Try.ntmps18
  go_wp2_with fail
  generalize ((w.alloc (.cells #[.slice none 0 0, .slice none 0 0] 62)).alloc (.cells #[.pointer (some ⟨i.d, 0, none⟩), .slice none 0 0, .slice none 0 0, .int .u64 now] 113)) = w2 at *
  refine HK.out.mono ?_
  rintro e w3 ⟨rfl, hf3⟩
  have h3 := HX.out.nil hf3
  have g3 := g2.trans hf3
  have hq3 := hq2.fr hf3 (fun x => x)
  have hlook := h3.dep.look id
  have hcat := h3.dep.find_at id
  rw [HCC.out] at hlook hcat
  have d21 := h3.dep.cell 21
  simp [DepIds.cells] at d21
  have hb4 := Blk.new w3 (.cells c.r.cells 116)
  have hx4 := h3.nil ((Fr.refl _ _).alloc (.cells c.r.cells 116))
  have hq4 := hq3.alloc (.cells c.r.cells 116)
  have g4 := g3.alloc (.cells c.r.cells 116)
  have hcat4 := hcat.fr ((Fr.refl Nil w3).alloc (.cells c.r.cells 116)) (fun _ _ e => e.elim)
  have hp3 : w.heap.size + 1 + 1 ≤ w3.heap.size := by rw [← HSz.out]; exact hf3.size
  have HX4 := Lib.hid hx4
  have HCat4 := Lib.hid hcat4
  have F4 : Fr (DepIds.T { i with lim := w.heap.size } (w.heap.size + 1)) w _ := g4.nilT
  unfold CallR.val Sl.val at hlook
  unfold CallR.cells Sl.val at *
  clear hf3 hq2 g2 g3 HK h3 hx4 hcat hcat4 g4 hq3
  clear hb4
  have h4 := HX4.out
  obtain ⟨va, vo, ft1, ft2, fr⟩ := h4.deed.told
  obtain ⟨fA, fn, fa, fO, fm, fo, rfl, rfl⟩ := fr.shape
  have fr0 := hq4.cell 0
  have fr1 := hq4.cell 1
  have fz0 := hq4.free 0
  have fz1 := hq4.free 1
  simp at fr0 fr1
  have fq2 := (hq4.set 0 (.slice fA fn fa)).set 1 (.slice fO fm fo)
  have fs0 := fq2.cell 0
  have fs1 := fq2.cell 1
  simp at fs0 fs1
  have HFin := Lib.hid (XAt.finishL (w := w) hold.out (Nat.le_refl _) h4 fr hqx F4)
  clear fq2 fr
  go_wp2_with fail
  exact bodyPost_ret (v := .agg #[.slice fA fn fa, .slice fO fm fo]) (by simp [results, Try.results18, go_sem, fs0, fs1]) rfl HFin.out

set_option maxRecDepth 100000 in
set_option maxHeartbeats 3200000 in
theorem dep_late_fall (i : DepIds) (D : Dp) (now id : Int) (w : World) (h : DepAt w i D) (hn : U64 now) (hk : D.knows id = true) (hst4 : (D.find id).r.state ≠ 4) (hst1 : (D.find id).r.state ≠ 1) (hst2 : (D.find id).r.state ≠ 2) :
    Calls Try.prog 18 #[.pointer (some ⟨i.d, 0, none⟩), .int .u64 now, .int .i64 id] w (LatePost w i (D.lateOf now id).2 (D.lateOf now id).1) := by
  have hR : D.lateOf now id = (Deed.fall ⟨[], [], now⟩ D (D.find id) 2, D.fall (D.find id) 2) := by unfold Dp.lateOf; rw [if_neg (by rw [hk]; simp), if_neg hst4, if_neg hst1, if_neg hst2]
  rw [hR]
  dsimp only
  have hold := Lib.hid h.old
  have HN := Lib.hid hn
  have g0 : Fr Nil w (w.alloc (.cells #[.slice none 0 0, .slice none 0 0] 62)) := (Fr.refl _ _).alloc _
  have hx2 := XAt.start ((h.relim w.heap.size (Nat.le_refl _)).nil g0) (show DepIds.lim { i with lim := w.heap.size } ≤ (w.alloc (.cells #[.slice none 0 0, .slice none 0 0] 62)).heap.size from g0.size) now hn
  rw [World.size_alloc] at hx2
  have g2 : Fr Nil w ((w.alloc (.cells #[.slice none 0 0, .slice none 0 0] 62)).alloc (.cells #[.pointer (some ⟨i.d, 0, none⟩), .slice none 0 0, .slice none 0 0, .int .u64 now] 113)) := g0.alloc _
  have hq2 := (Blk.new w (.cells #[.slice none 0 0, .slice none 0 0] 62)).alloc (.cells #[.pointer (some ⟨i.d, 0, none⟩), .slice none 0 0, .slice none 0 0, .int .u64 now] 113)
  have HK := Lib.hid (dep_knows { i with lim := w.heap.size } D id ((w.alloc (.cells #[.slice none 0 0, .slice none 0 0] 62)).alloc (.cells #[.pointer (some ⟨i.d, 0, none⟩), .slice none 0 0, .slice none 0 0, .int .u64 now] 113)) hx2.dep)
  rw [hk] at HK
  have HX := Lib.hid hx2
  have hqx : w.heap.size < w.heap.size + 1 := Nat.lt_succ_self _
  have hsz2 : ((w.alloc (.cells #[.slice none 0 0, .slice none 0 0] 62)).alloc (.cells #[.pointer (some ⟨i.d, 0, none⟩), .slice none 0 0, .slice none 0 0, .int .u64 now] 113)).heap.size = w.heap.size + 1 + 1 := by rw [World.size_alloc, World.size_alloc]
  have HSz := Lib.hid hsz2
  have hs4 : ((D.find id).r.state == 4) = false := by simpa using hst4
  have hs1 : ((D.find id).r.state == 1) = false := by simpa using hst1
  have hs2 : ((D.find id).r.state == 2) = false := by simpa using hst2
  generalize hcc : D.find id = c at *
  have HCC := Lib.hid hcc
  clear hcc
  clear h hn hR hk g0 hx2 hsz2 hst4 hst1 hst2
  go_enter Try.func18, Try.ntmps18
  go_wp2_with fail
  generalize ((w.alloc (.cells #[.slice none 0 0, .slice none 0 0] 62)).alloc (.cells #[.pointer (some ⟨i.d, 0, none⟩), .slice none 0 0, .slice none 0 0, .int .u64 now] 113)) = w2 at *
  refine HK.out.mono ?_
  rintro e w3 ⟨rfl, hf3⟩
  have h3 := HX.out.nil hf3
  have g3 := g2.trans hf3
  have hq3 := hq2.fr hf3 (fun x => x)
  have hlook := h3.dep.look id
  have hcat := h3.dep.find_at id
  rw [HCC.out] at hlook hcat
  have d21 := h3.dep.cell 21
  simp [DepIds.cells] at d21
  have hb4 := Blk.new w3 (.cells c.r.cells 116)
  have hx4 := h3.nil ((Fr.refl _ _).alloc (.cells c.r.cells 116))
  have hq4 := hq3.alloc (.cells c.r.cells 116)
  have g4 := g3.alloc (.cells c.r.cells 116)
  have hcat4 := hcat.fr ((Fr.refl Nil w3).alloc (.cells c.r.cells 116)) (fun _ _ e => e.elim)
  have hp3 : w.heap.size + 1 + 1 ≤ w3.heap.size := by rw [← HSz.out]; exact hf3.size
  have HX4 := Lib.hid hx4
  have HCat4 := Lib.hid hcat4
  have F4 : Fr (DepIds.T { i with lim := w.heap.size } (w.heap.size + 1)) w _ := g4.nilT
  unfold CallR.val Sl.val at hlook
  unfold CallR.cells Sl.val at *
  clear hf3 hq2 g2 g3 HK h3 hx4 hcat hcat4 g4 hq3
  have HF := Lib.hid (deed_fall (w.heap.size + 1) { i with lim := w.heap.size } _ _ c 2 _ HX4.out HCat4.out (by simp) (by simp))
  unfold CallR.val Sl.val at HF
  go_wp2_with fail
  refine HF.out.mono ?_
  rintro e w9 ⟨rfl, h9, hf9⟩
  have hq9 := hq4.fr hf9 (fun e => by rcases e with e | e; exact Nat.lt_irrefl _ (hold.out _ e); omega)
  have F9 := F4.trans hf9
  clear HF hf9 F4 hq4 hb4
  obtain ⟨va, vo, ft1, ft2, fr⟩ := h9.deed.told
  obtain ⟨fA, fn, fa, fO, fm, fo, rfl, rfl⟩ := fr.shape
  have fr0 := hq9.cell 0
  have fr1 := hq9.cell 1
  have fz0 := hq9.free 0
  have fz1 := hq9.free 1
  simp at fr0 fr1
  have fq2 := (hq9.set 0 (.slice fA fn fa)).set 1 (.slice fO fm fo)
  have fs0 := fq2.cell 0
  have fs1 := fq2.cell 1
  simp at fs0 fs1
  have HFin := Lib.hid (XAt.finishL (w := w) hold.out (Nat.le_refl _) h9 fr hqx F9)
  clear fq2 fr
  go_wp2_with fail
  exact bodyPost_ret (v := .agg #[.slice fA fn fa, .slice fO fm fo]) (by simp [results, Try.results18, go_sem, fs0, fs1]) rfl HFin.out

set_option maxRecDepth 100000 in
set_option maxHeartbeats 3200000 in
theorem dep_late_run (i : DepIds) (D : Dp) (now id : Int) (w : World) (h : DepAt w i D) (hn : U64 now) (hk : D.knows id = true) (hst : (D.find id).r.state = 2) :
    Calls Try.prog 18 #[.pointer (some ⟨i.d, 0, none⟩), .int .u64 now, .int .i64 id] w (LatePost w i (D.lateOf now id).2 (D.lateOf now id).1) := by
  have hR : D.lateOf now id = (Deed.fall ⟨[], [], now⟩ (D.count now id 2) (D.find id) 2, (D.count now id 2).fall (D.find id) 2) := by unfold Dp.lateOf; rw [if_neg (by rw [hk]; simp), if_neg (by rw [hst]; simp), if_neg (by rw [hst]; simp), if_pos hst]
  rw [hR]
  dsimp only
  have hold := Lib.hid h.old
  have HN := Lib.hid hn
  have g0 : Fr Nil w (w.alloc (.cells #[.slice none 0 0, .slice none 0 0] 62)) := (Fr.refl _ _).alloc _
  have hx2 := XAt.start ((h.relim w.heap.size (Nat.le_refl _)).nil g0) (show DepIds.lim { i with lim := w.heap.size } ≤ (w.alloc (.cells #[.slice none 0 0, .slice none 0 0] 62)).heap.size from g0.size) now hn
  rw [World.size_alloc] at hx2
  have g2 : Fr Nil w ((w.alloc (.cells #[.slice none 0 0, .slice none 0 0] 62)).alloc (.cells #[.pointer (some ⟨i.d, 0, none⟩), .slice none 0 0, .slice none 0 0, .int .u64 now] 113)) := g0.alloc _
  have hq2 := (Blk.new w (.cells #[.slice none 0 0, .slice none 0 0] 62)).alloc (.cells #[.pointer (some ⟨i.d, 0, none⟩), .slice none 0 0, .slice none 0 0, .int .u64 now] 113)
  have HK := Lib.hid (dep_knows { i with lim := w.heap.size } D id ((w.alloc (.cells #[.slice none 0 0, .slice none 0 0] 62)).alloc (.cells #[.pointer (some ⟨i.d, 0, none⟩), .slice none 0 0, .slice none 0 0, .int .u64 now] 113)) hx2.dep)
  rw [hk] at HK
  have HX := Lib.hid hx2
  have hqx : w.heap.size < w.heap.size + 1 := Nat.lt_succ_self _
  have hsz2 : ((w.alloc (.cells #[.slice none 0 0, .slice none 0 0] 62)).alloc (.cells #[.pointer (some ⟨i.d, 0, none⟩), .slice none 0 0, .slice none 0 0, .int .u64 now] 113)).heap.size = w.heap.size + 1 + 1 := by rw [World.size_alloc, World.size_alloc]
  have HSz := Lib.hid hsz2
  have hs4 : ((D.find id).r.state == 4) = false := by simp [hst]
  have hs1 : ((D.find id).r.state == 1) = false := by simp [hst]
  have hs2 : ((D.find id).r.state == 2) = true := by simp [hst]
  generalize hcc : D.find id = c at *
  have HCC := Lib.hid hcc
  clear hcc
  have HSt := Lib.hid hst
  clear h hn hR hk g0 hx2 hsz2 hst
  go_enter Try.func18, Try.ntmps18
  go_wp2_with fail
  generalize ((w.alloc (.cells #[.slice none 0 0, .slice none 0 0] 62)).alloc (.cells #[.pointer (some ⟨i.d, 0, none⟩), .slice none 0 0, .slice none 0 0, .int .u64 now] 113)) = w2 at *
  refine HK.out.mono ?_
  rintro e w3 ⟨rfl, hf3⟩
  have h3 := HX.out.nil hf3
  have g3 := g2.trans hf3
  have hq3 := hq2.fr hf3 (fun x => x)
  have hlook := h3.dep.look id
  have hcat := h3.dep.find_at id
  rw [HCC.out] at hlook hcat
  have d21 := h3.dep.cell 21
  simp [DepIds.cells] at d21
  have hb4 := Blk.new w3 (.cells c.r.cells 116)
  have hx4 := h3.nil ((Fr.refl _ _).alloc (.cells c.r.cells 116))
  have hq4 := hq3.alloc (.cells c.r.cells 116)
  have g4 := g3.alloc (.cells c.r.cells 116)
  have hcat4 := hcat.fr ((Fr.refl Nil w3).alloc (.cells c.r.cells 116)) (fun _ _ e => e.elim)
  have hp3 : w.heap.size + 1 + 1 ≤ w3.heap.size := by rw [← HSz.out]; exact hf3.size
  have HX4 := Lib.hid hx4
  have HCat4 := Lib.hid hcat4
  have F4 : Fr (DepIds.T { i with lim := w.heap.size } (w.heap.size + 1)) w _ := g4.nilT
  unfold CallR.val Sl.val at hlook
  unfold CallR.cells Sl.val at *
  clear hf3 hq2 g2 g3 HK h3 hx4 hcat hcat4 g4 hq3
  have HCt := Lib.hid (deed_count (w.heap.size + 1) { i with lim := w.heap.size } _ D id 2 (by omega) _ HX4.out)
  go_wp2_with fail
  refine HCt.out.mono ?_
  rintro e w5 ⟨rfl, h5, hf5⟩
  have hb5 := hb4.fr hf5 (fun e => by have := HX4.out.below _ e; omega)
  have hq5 := hq4.fr hf5 (fun e => Nat.lt_irrefl _ (hold.out _ e))
  have F5 := F4.trans (hf5.mono (fun _ _ e => .inl e))
  have HCat5 := Lib.hid (HCat4.out.fr hf5 (fun _ _ e => .inl e))
  clear hlook d21 hb4 hq4 F4 HCat4 HX4 HCt hf5
  have HF := Lib.hid (deed_fall (w.heap.size + 1) { i with lim := w.heap.size } _ _ c 2 w5 h5 HCat5.out (by simp) (by simp))
  unfold CallR.val Sl.val at HF
  have p0 := hb5.cell 0
  have q0 := hb5.free 0
  have p1 := hb5.cell 1
  have q1 := hb5.free 1
  have p2 := hb5.cell 2
  have q2 := hb5.free 2
  have p3 := hb5.cell 3
  have q3 := hb5.free 3
  have p4 := hb5.cell 4
  have q4 := hb5.free 4
  have p5 := hb5.cell 5
  have q5 := hb5.free 5
  simp at p0 p1 p2 p3 p4 p5
  go_wp2_with fail
  refine HF.out.mono ?_
  rintro e w9 ⟨rfl, h9, hf9⟩
  have hq9 := hq5.fr hf9 (fun e => by rcases e with e | e; exact Nat.lt_irrefl _ (hold.out _ e); omega)
  have F9 := F5.trans hf9
  clear HF hf9 F5 hq5 hb5
  clear p0 p1 p2 p3 p4 p5 q0 q1 q2 q3 q4 q5
  obtain ⟨va, vo, ft1, ft2, fr⟩ := h9.deed.told
  obtain ⟨fA, fn, fa, fO, fm, fo, rfl, rfl⟩ := fr.shape
  have fr0 := hq9.cell 0
  have fr1 := hq9.cell 1
  have fz0 := hq9.free 0
  have fz1 := hq9.free 1
  simp at fr0 fr1
  have fq2 := (hq9.set 0 (.slice fA fn fa)).set 1 (.slice fO fm fo)
  have fs0 := fq2.cell 0
  have fs1 := fq2.cell 1
  simp at fs0 fs1
  have HFin := Lib.hid (XAt.finishL (w := w) hold.out (Nat.le_refl _) h9 fr hqx F9)
  clear fq2 fr
  go_wp2_with fail
  exact bodyPost_ret (v := .agg #[.slice fA fn fa, .slice fO fm fo]) (by simp [results, Try.results18, go_sem, fs0, fs1]) rfl HFin.out

set_option maxRecDepth 100000 in
set_option maxHeartbeats 3200000 in
theorem dep_late_wait (i : DepIds) (D : Dp) (now id : Int) (w : World) (h : DepAt w i D) (hn : U64 now) (hk : D.knows id = true) (hst : (D.find id).r.state = 1) :
    Calls Try.prog 18 #[.pointer (some ⟨i.d, 0, none⟩), .int .u64 now, .int .i64 id] w (LatePost w i (D.lateOf now id).2 (D.lateOf now id).1) := by
  have hR : D.lateOf now id = (Deed.fall ⟨[], [], now⟩ ((D.dropped id).count now id 2) (D.find id) 2, ((D.dropped id).count now id 2).fall (D.find id) 2) := by unfold Dp.lateOf; rw [if_neg (by rw [hk]; simp), if_neg (by rw [hst]; simp), if_pos hst]
  rw [hR]
  dsimp only
  have hold := Lib.hid h.old
  have HN := Lib.hid hn
  have g0 : Fr Nil w (w.alloc (.cells #[.slice none 0 0, .slice none 0 0] 62)) := (Fr.refl _ _).alloc _
  have hx2 := XAt.start ((h.relim w.heap.size (Nat.le_refl _)).nil g0) (show DepIds.lim { i with lim := w.heap.size } ≤ (w.alloc (.cells #[.slice none 0 0, .slice none 0 0] 62)).heap.size from g0.size) now hn
  rw [World.size_alloc] at hx2
  have g2 : Fr Nil w ((w.alloc (.cells #[.slice none 0 0, .slice none 0 0] 62)).alloc (.cells #[.pointer (some ⟨i.d, 0, none⟩), .slice none 0 0, .slice none 0 0, .int .u64 now] 113)) := g0.alloc _
  have hq2 := (Blk.new w (.cells #[.slice none 0 0, .slice none 0 0] 62)).alloc (.cells #[.pointer (some ⟨i.d, 0, none⟩), .slice none 0 0, .slice none 0 0, .int .u64 now] 113)
  have HK := Lib.hid (dep_knows { i with lim := w.heap.size } D id ((w.alloc (.cells #[.slice none 0 0, .slice none 0 0] 62)).alloc (.cells #[.pointer (some ⟨i.d, 0, none⟩), .slice none 0 0, .slice none 0 0, .int .u64 now] 113)) hx2.dep)
  rw [hk] at HK
  have HX := Lib.hid hx2
  have hqx : w.heap.size < w.heap.size + 1 := Nat.lt_succ_self _
  have hsz2 : ((w.alloc (.cells #[.slice none 0 0, .slice none 0 0] 62)).alloc (.cells #[.pointer (some ⟨i.d, 0, none⟩), .slice none 0 0, .slice none 0 0, .int .u64 now] 113)).heap.size = w.heap.size + 1 + 1 := by rw [World.size_alloc, World.size_alloc]
  have HSz := Lib.hid hsz2
  have hs4 : ((D.find id).r.state == 4) = false := by simp [hst]
  have hs1 : ((D.find id).r.state == 1) = true := by simp [hst]
  have HDr := Lib.hid (show D.dropped id = { D with bulk := (D.bulk.drop id).2 } from rfl)
  generalize D.dropped id = DR at *
  generalize hcc : D.find id = c at *
  have HCC := Lib.hid hcc
  clear hcc
  have HSt := Lib.hid hst
  clear h hn hR hk g0 hx2 hsz2 hst
  go_enter Try.func18, Try.ntmps18
  go_wp2_with fail
  generalize ((w.alloc (.cells #[.slice none 0 0, .slice none 0 0] 62)).alloc (.cells #[.pointer (some ⟨i.d, 0, none⟩), .slice none 0 0, .slice none 0 0, .int .u64 now] 113)) = w2 at *
  refine HK.out.mono ?_
  rintro e w3 ⟨rfl, hf3⟩
  have h3 := HX.out.nil hf3
  have g3 := g2.trans hf3
  have hq3 := hq2.fr hf3 (fun x => x)
  have hlook := h3.dep.look id
  have hcat := h3.dep.find_at id
  rw [HCC.out] at hlook hcat
  have d21 := h3.dep.cell 21
  simp [DepIds.cells] at d21
  have hb4 := Blk.new w3 (.cells c.r.cells 116)
  have hx4 := h3.nil ((Fr.refl _ _).alloc (.cells c.r.cells 116))
  have hq4 := hq3.alloc (.cells c.r.cells 116)
  have g4 := g3.alloc (.cells c.r.cells 116)
  have hcat4 := hcat.fr ((Fr.refl Nil w3).alloc (.cells c.r.cells 116)) (fun _ _ e => e.elim)
  have hp3 : w.heap.size + 1 + 1 ≤ w3.heap.size := by rw [← HSz.out]; exact hf3.size
  have HX4 := Lib.hid hx4
  have HCat4 := Lib.hid hcat4
  have F4 : Fr (DepIds.T { i with lim := w.heap.size } (w.heap.size + 1)) w _ := g4.nilT
  unfold CallR.val Sl.val at hlook
  unfold CallR.cells Sl.val at *
  clear hf3 hq2 g2 g3 HK h3 hx4 hcat hcat4 g4 hq3
  have HDrop := Lib.hid (bulk_drop i.bulk D.bulk id _ HX4.out.dep.bulk)
  have d1 := HX4.out.dep.cell 1
  simp [DepIds.cells] at d1
  go_wp2_with fail
  refine HDrop.out.mono ?_
  rintro e w5 ⟨rfl, hk5, hf5⟩
  have hfi : Fr i.S _ w5 := hf5.mono (fun k _ e => by rcases e with e | e <;> cases e; exact i.mem 4; exact i.mem 5)
  have h5 : XAt w5 (w.heap.size + 1) { i with lim := w.heap.size } ⟨[], [], now⟩ DR := by
    rw [HDr.out]
    exact HX4.out.dep_on (HX4.out.dep.upd_bulk hk5 hf5) hfi
  have hb5 := hb4.fr hfi (fun e => by have := HX4.out.below _ e; omega)
  have hq5 := hq4.fr hfi (fun e => Nat.lt_irrefl _ (hold.out _ e))
  have F5 := F4.trans (hfi.mono (fun _ _ e => .inl e))
  have HCat5 := Lib.hid (HCat4.out.fr hfi (fun _ _ e => .inl e))
  have HCt := Lib.hid (deed_count (w.heap.size + 1) { i with lim := w.heap.size } _ DR id 2 (by omega) w5 h5)
  have H5 := Lib.hid h5
  clear hlook d21 d1 hb4 hq4 F4 HCat4 HX4 HDrop hf5 hk5 hfi h5
  go_wp2_with fail
  refine HCt.out.mono ?_
  rintro e w6 ⟨rfl, h6, hf6⟩
  have hb6 := hb5.fr hf6 (fun e => by have := H5.out.below _ e; omega)
  have hq6 := hq5.fr hf6 (fun e => Nat.lt_irrefl _ (hold.out _ e))
  have F6 := F5.trans (hf6.mono (fun _ _ e => .inl e))
  have HCat6 := Lib.hid (HCat5.out.fr hf6 (fun _ _ e => .inl e))
  clear hb5 hq5 F5 HCat5 H5 HCt hf6
  have HF := Lib.hid (deed_fall (w.heap.size + 1) { i with lim := w.heap.size } _ _ c 2 w6 h6 HCat6.out (by simp) (by simp))
  unfold CallR.val Sl.val at HF
  have p0 := hb6.cell 0
  have q0 := hb6.free 0
  have p1 := hb6.cell 1
  have q1 := hb6.free 1
  have p2 := hb6.cell 2
  have q2 := hb6.free 2
  have p3 := hb6.cell 3
  have q3 := hb6.free 3
  have p4 := hb6.cell 4
  have q4 := hb6.free 4
  have p5 := hb6.cell 5
  have q5 := hb6.free 5
  simp at p0 p1 p2 p3 p4 p5
  go_wp2_with fail
  refine HF.out.mono ?_
  rintro e w9 ⟨rfl, h9, hf9⟩
  have hq9 := hq6.fr hf9 (fun e => by rcases e with e | e; exact Nat.lt_irrefl _ (hold.out _ e); omega)
  have F9 := F6.trans hf9
  clear HF hf9 F6 hq6 hb6
  clear p0 p1 p2 p3 p4 p5 q0 q1 q2 q3 q4 q5
  obtain ⟨va, vo, ft1, ft2, fr⟩ := h9.deed.told
  obtain ⟨fA, fn, fa, fO, fm, fo, rfl, rfl⟩ := fr.shape
  have fr0 := hq9.cell 0
  have fr1 := hq9.cell 1
  have fz0 := hq9.free 0
  have fz1 := hq9.free 1
  simp at fr0 fr1
  have fq2 := (hq9.set 0 (.slice fA fn fa)).set 1 (.slice fO fm fo)
  have fs0 := fq2.cell 0
  have fs1 := fq2.cell 1
  simp at fs0 fs1
  have HFin := Lib.hid (XAt.finishL (w := w) hold.out (Nat.le_refl _) h9 fr hqx F9)
  clear fq2 fr
  go_wp2_with fail
  exact bodyPost_ret (v := .agg #[.slice fA fn fa, .slice fO fm fo]) (by simp [results, Try.results18, go_sem, fs0, fs1]) rfl HFin.out

theorem dep_late (i : DepIds) (D : Dp) (now id : Int) (w : World) (h : DepAt w i D) (hn : U64 now) :
    Calls Try.prog 18 #[.pointer (some ⟨i.d, 0, none⟩), .int .u64 now, .int .i64 id] w (LatePost w i (D.lateOf now id).2 (D.lateOf now id).1) := by
  cases hk : D.knows id
  · exact dep_late_none i D now id w h hn hk
  · by_cases h4 : (D.find id).r.state = 4
    · exact dep_late_over i D now id w h hn hk h4
    · by_cases h1 : (D.find id).r.state = 1
      · exact dep_late_wait i D now id w h hn hk h1
      · by_cases h2 : (D.find id).r.state = 2
        · exact dep_late_run i D now id w h hn hk h2
        · exact dep_late_fall i D now id w h hn hk h4 h1 h2

end Go.Proofs.Ythnaieeaominjaa
