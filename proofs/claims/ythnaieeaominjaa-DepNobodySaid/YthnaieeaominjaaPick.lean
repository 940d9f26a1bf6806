/-
  Package dep: Knows, Pick, Offer.
-/
import Derived.Test.YthnaieeaominjaaOffer
namespace Go.Proofs.Ythnaieeaominjaa
open Go.RowKit
set_option linter.unusedVariables false
set_option linter.unusedSimpArgs false

/-- What a deed tells, as its caller holds it. -/
def RowsAt (w : World) (B : Nat) (va vo : Value) (E : Deed) : Prop :=
  w.ownsRow B 80 3 va E.acts.length (actCells E.acts) ∧ w.ownsRow B 82 5 vo E.outs.length (outCells E.outs)
def ResPost (w : World) (i : DepIds) (D' : Dp) (E : Deed) (err : Int) (e : Ending) (w' : World) : Prop :=
  ∃ va vo, e = .returned (.tuple #[.agg #[va, vo], .int .i64 err]) ∧ RowsAt w' w.heap.size va vo E ∧ DepAt w' { i with lim := w'.heap.size } D' ∧ Fr i.S w w'
theorem RowsAt.nil (w : World) (B : Nat) (now : Int) : RowsAt w B (.slice none 0 0) (.slice none 0 0) ⟨[], [], now⟩ := ⟨World.ownsRow_nil _ _ _ _, World.ownsRow_nil _ _ _ _⟩

section
variable {w w' W : World} {x q : Nat} {i : DepIds} {E : Deed} {D : Dp}
theorem DepAt.old (h : DepAt w i D) (k : Nat) (hk : i.S k) : k < w.heap.size := by
  simp only [DepIds.S, DepIds.all, List.mem_cons, List.not_mem_nil, or_false] at hk
  have a0 := h.blk.lt
  have a1 := h.brk.1.lt
  have a2 := h.bulk.1.lt
  have a3 := h.bulk.2.1.1.lt
  have a4 := h.bulk.2.1.2.1.lt
  have a5 := h.bulk.2.2.1.lt
  have a6 := h.falls.1.lt
  have a7 := h.falls.2.1.lt
  have a8 := h.win.1.lt
  obtain ⟨g, a9⟩ := h.hist
  have a9 := a9.1.lt
  have a10 := h.calls.1.lt
  rcases hk with rfl | rfl | rfl | rfl | rfl | rfl | rfl | rfl | rfl | rfl | rfl <;> assumption
/-- A deed begins. -/
theorem XAt.begin (h : DepAt w i D) (f : Fr Nil w W) (now : Int) (hn : U64 now) :
    XAt (W.alloc (.cells #[.pointer (some ⟨i.d, 0, none⟩), .slice none 0 0, .slice none 0 0, .int .u64 now] 113)) W.heap.size { i with lim := w.heap.size } ⟨[], [], now⟩ D := by
  have h0 := h.relim w.heap.size (Nat.le_refl _)
  have f2 : Fr Nil w (W.alloc (.cells #[.pointer (some ⟨i.d, 0, none⟩), .slice none 0 0, .slice none 0 0, .int .u64 now] 113)) := f.alloc _
  refine ⟨⟨⟨.slice none 0 0, .slice none 0 0, Blk.new W _, World.ownsRow_nil _ _ _ _, World.ownsRow_nil _ _ _ _, fun k hk => by simp [Value.ownBlock] at hk⟩, hn⟩, h0.nil f2, ?_, f.size⟩
  exact fun k hk => Nat.lt_of_lt_of_le (h.old k hk) f.size

theorem XAt.start (h : DepAt W i D) (hl : i.lim ≤ W.heap.size) (now : Int) (hn : U64 now) :
    XAt (W.alloc (.cells #[.pointer (some ⟨i.d, 0, none⟩), .slice none 0 0, .slice none 0 0, .int .u64 now] 113)) W.heap.size i ⟨[], [], now⟩ D :=
  ⟨⟨⟨.slice none 0 0, .slice none 0 0, Blk.new W _, World.ownsRow_nil _ _ _ _, World.ownsRow_nil _ _ _ _, fun k hk => by simp [Value.ownBlock] at hk⟩, hn⟩, h.nil ((Fr.refl _ _).alloc _), h.old, hl⟩

/-- The rows of a deed. -/
theorem DeedAt.told {d : Nat} (h : DeedAt w x d E) : ∃ va vo, w.cell? ⟨x, 1, none⟩ = some va ∧ w.cell? ⟨x, 2, none⟩ = some vo ∧ RowsAt w (x + 1) va vo E := by
  obtain ⟨va, vo, hb, ha, ho, -⟩ := h.rows
  exact ⟨va, vo, by rw [hb.cell]; rfl, by rw [hb.cell]; rfl, ha, ho⟩
theorem RowsAt.fr {S : Nat → Prop} {B : Nat} {va vo : Value} (h : RowsAt w B va vo E) (f : Fr S w w') (hs : ∀ k, B ≤ k → k < w.heap.size → ¬ S k) : RowsAt w' B va vo E := ⟨ownsRow_fr h.1 f hs, ownsRow_fr h.2 f hs⟩
theorem RowsAt.base {B B' : Nat} {va vo : Value} (h : RowsAt w B va vo E) (hb : B' ≤ B) : RowsAt w B' va vo E := ⟨ownsRow_base h.1 hb, ownsRow_base h.2 hb⟩
theorem RowsAt.shape {B : Nat} {va vo : Value} (h : RowsAt w B va vo E) : ∃ A n a O m o, va = .slice A n a ∧ vo = .slice O m o := by
  obtain ⟨A, a, ha⟩ := own_shape h.1
  obtain ⟨O, o, ho⟩ := own_shape h.2
  exact ⟨A, _, a, O, _, o, ha, ho⟩

/-- The end: what was told is put into the result q. -/
theorem XAt.finish {va vo : Value} {err : Int} (hold : ∀ k, i.S k → k < w.heap.size) (hq : w.heap.size ≤ q) (hx : XAt W x { i with lim := w.heap.size } E D) (hr : RowsAt W (x + 1) va vo E) (hqx : q < x) (f : Fr (DepIds.T { i with lim := w.heap.size } x) w W) :
    ResPost w i D E err (.returned (.tuple #[.agg #[va, vo], .int .i64 err])) ((W.setCell ⟨q, 0, none⟩ va).setCell ⟨q, 1, none⟩ vo) := by
  have fq : Fr (Only q) W ((W.setCell ⟨q, 0, none⟩ va).setCell ⟨q, 1, none⟩ vo) := ((Fr.refl _ _).setAt _ (Only.self _)).setAt _ (Only.self _)
  refine ⟨va, vo, rfl, ?_, ?_, ?_⟩
  · exact (hr.fr fq (fun k hk _ e => by unfold Only at e; omega)).base (by omega)
  · have h1 := hx.dep.fr fq (fun k hk e => by
      unfold Only at e
      subst e
      exact Nat.lt_irrefl _ (Nat.lt_of_lt_of_le (hold _ hk) hq)) (fun b _ e => by unfold Only at e; subst e; exact .inr (.inr hq))
    exact h1.relim _ (Nat.le_refl _)
  · refine (f.step fq (fun k hk e => by unfold Only at e; omega)).mono (fun k hk e => ?_)
    rcases e with e | e
    · exact e
    · omega
end

/-- Nothing is told. -/
theorem DepAt.nothing {w W : World} {i : DepIds} {D : Dp} {err now : Int} {q : Nat} (hold : ∀ k, i.S k → k < w.heap.size) (hq : w.heap.size ≤ q) (h : DepAt W { i with lim := w.heap.size } D) (f : Fr i.S w W) :
    ResPost w i D ⟨[], [], now⟩ err (.returned (.tuple #[.agg #[.slice none 0 0, .slice none 0 0], .int .i64 err])) ((W.setCell ⟨q, 0, none⟩ (.slice none 0 0)).setCell ⟨q, 1, none⟩ (.slice none 0 0)) := by
  have fq : Fr (Only q) W ((W.setCell ⟨q, 0, none⟩ (.slice none 0 0)).setCell ⟨q, 1, none⟩ (.slice none 0 0)) := ((Fr.refl _ _).setAt _ (Only.self _)).setAt _ (Only.self _)
  refine ⟨_, _, rfl, RowsAt.nil _ _ _, ?_, f.step fq (fun k hk e => by unfold Only at e; omega)⟩
  exact (h.fr fq (fun k hk e => by unfold Only at e; subst e; exact Nat.lt_irrefl _ (Nat.lt_of_lt_of_le (hold _ hk) hq)) (fun b _ e => by unfold Only at e; subst e; exact .inr (.inr hq))).relim _ (Nat.le_refl _)

def Dp.pickOf (D : Dp) : Dp := { D with bulk := D.bulk.pick.2.2 }

def Dp.knows (D : Dp) (id : Int) : Bool := (cget id D.calls).isSome
theorem DepAt.look2 {w : World} {i : DepIds} {D : Dp} (h : DepAt w i D) (id : Int) : (Instr.lookup 98 (.map (some i.calls)) (.int .i64 id) true).run Try.prog w = .ok (.tuple #[(D.find id).r.val, .bool (D.knows id)]) w := by
  rw [run_lookup Try.underlying98 (z := noCl.r.val) (fun w => by kernel_rfl) (key_int Try.underlying3 id) h.calls.1 (kv_dom _), get_kv]
  unfold Dp.find Dp.knows
  cases cget id D.calls <;> simp

set_option maxRecDepth 100000 in
set_option maxHeartbeats 1600000 in
theorem dep_knows (i : DepIds) (D : Dp) (id : Int) (w : World) (h : DepAt w i D) :
    Calls Try.prog 19 #[.pointer (some ⟨i.d, 0, none⟩), .int .i64 id] w fun e w' => e = .returned (.bool (D.knows id)) ∧ Fr Nil w w' := by
  have hl := h.look2 id
  unfold CallR.val Sl.val at hl
  have d21 := h.cell 21
  simp [DepIds.cells] at d21
  generalize D.knows id = b at *
  go_enter Try.func19, Try.ntmps19
  go_wp2_with fail
  go_ret
  exact ⟨rfl, (Fr.refl _ _).alloc _⟩

set_option maxRecDepth 100000 in
set_option maxHeartbeats 1600000 in
theorem dep_pick_none (i : DepIds) (D : Dp) (now : Int) (w : World) (h : DepAt w i D) (hn : U64 now) (hp : D.bulk.pick.2.1 = false) :
    Calls Try.prog 15 #[.pointer (some ⟨i.d, 0, none⟩), .int .u64 now] w (ResPost w i D.pickOf ⟨[], [], now⟩ 3) := by
  have g0 : Fr Nil w (w.alloc (.cells #[.slice none 0 0, .slice none 0 0] 62)) := (Fr.refl _ _).alloc _
  have h0 := (h.relim w.heap.size (Nat.le_refl _)).nil g0
  have HB := bulk_pick i.bulk D.bulk _ h0.bulk
  rw [hp] at HB
  have HB2 := Lib.hid HB
  have d1 := h0.cell 1
  simp [DepIds.cells] at d1
  have H0 := Lib.hid h0
  have hq := Blk.new w (.cells #[.slice none 0 0, .slice none 0 0] 62)
  have hold := Lib.hid h.old
  clear h h0 HB hp
  go_enter Try.func15, Try.ntmps15
  go_wp2_with fail
  refine HB2.out.mono ?_
  rintro e w1 ⟨rfl, hb1, hf1⟩
  have hfi : Fr i.S _ w1 := hf1.mono (fun k _ e => by rcases e with e | e <;> cases e; exact i.mem 4; exact i.mem 5)
  have h1 := H0.out.upd_bulk hb1 hf1
  have hq1 := hq.fr hfi (fun e => Nat.lt_irrefl _ (hold.out _ e))
  have r0 := hq1.cell 0
  have r1 := hq1.cell 1
  have z0 := hq1.free 0
  have z1 := hq1.free 1
  simp at r0 r1
  have hq2 := (hq1.set 0 (.slice none 0 0)).set 1 (.slice none 0 0)
  have s0 := hq2.cell 0
  have s1 := hq2.cell 1
  simp at s0 s1
  have HR := Lib.hid (DepAt.nothing (err := 3) (now := now) hold.out (Nat.le_refl _) h1 ((g0.mono (fun _ _ e => e.elim)).trans hfi))
  clear d1 hb1 hf1 hfi h1 hq hq1 hq2 g0 H0 HB2
  go_wp2_with fail
  exact bodyPost_ret (v := .tuple #[.agg #[.slice none 0 0, .slice none 0 0], .int .i64 3]) (by simp [results, Try.results15, go_sem, s0, s1]) rfl HR.out

set_option maxRecDepth 100000 in
set_option maxHeartbeats 1600000 in
theorem dep_pick_some (i : DepIds) (D : Dp) (now : Int) (w : World) (h : DepAt w i D) (hn : U64 now) (hp : D.bulk.pick.2.1 = true) :
    Calls Try.prog 15 #[.pointer (some ⟨i.d, 0, none⟩), .int .u64 now] w (ResPost w i (D.pickOf.runs [D.bulk.pick.1]) ⟨[], [], now⟩ 0) := by
  have g0 : Fr Nil w (w.alloc (.cells #[.slice none 0 0, .slice none 0 0] 62)) := (Fr.refl _ _).alloc _
  have h0 := (h.relim w.heap.size (Nat.le_refl _)).nil g0
  have HB := bulk_pick i.bulk D.bulk _ h0.bulk
  rw [hp] at HB
  have HB2 := Lib.hid HB
  have d1 := h0.cell 1
  simp [DepIds.cells] at d1
  have H0 := Lib.hid h0
  have hq := Blk.new w (.cells #[.slice none 0 0, .slice none 0 0] 62)
  have hold := Lib.hid h.old
  have HP := Lib.hid (show D.pickOf = { D with bulk := D.bulk.pick.2.2 } from rfl)
  generalize D.pickOf = DP at *
  generalize D.bulk.pick.1 = id at *
  clear h h0 HB hp
  go_enter Try.func15, Try.ntmps15
  go_wp2_with fail
  refine HB2.out.mono ?_
  rintro e w1 ⟨rfl, hb1, hf1⟩
  have hfi : Fr i.S _ w1 := hf1.mono (fun k _ e => by rcases e with e | e <;> cases e; exact i.mem 4; exact i.mem 5)
  have h1 : DepAt w1 { i with lim := w.heap.size } DP := by
    rw [HP.out]
    exact H0.out.upd_bulk hb1 hf1
  have f1 : Fr i.S w w1 := (g0.mono (fun _ _ e => e.elim)).trans hfi
  have hq1 := hq.fr hfi (fun e => Nat.lt_irrefl _ (hold.out _ e))
  have hqx := hq1.lt
  have hx2 := XAt.start h1 f1.size now hn
  have hq2 := hq1.alloc (.cells #[.pointer (some ⟨i.d, 0, none⟩), .slice none 0 0, .slice none 0 0, .int .u64 now] 113)
  have f2 : Fr i.S w (w1.alloc (.cells #[.pointer (some ⟨i.d, 0, none⟩), .slice none 0 0, .slice none 0 0, .int .u64 now] 113)) := f1.alloc _
  have HX := Lib.hid hx2
  have HR := fun W s (hW : XAt W w1.heap.size { i with lim := w.heap.size } ⟨[], [], now⟩ DP) hs => Lib.hid (deed_runs w1.heap.size { i with lim := w.heap.size } ⟨[], [], now⟩ DP s [id] W hW hs)
  have hrd := Lib.hid (one_rdS (n := id) (w := w1.alloc (.cells #[.pointer (some ⟨i.d, 0, none⟩), .slice none 0 0, .slice none 0 0, .int .u64 now] 113)) (S := i.S) (fun e => by have := hx2.below _ e; rw [World.size_alloc] at this; omega))
  rw [World.size_alloc] at hrd
  clear d1 hb1 hf1 hfi h1 hq hq1 g0 H0 HB2 hx2
  go_wp2_with fail
  generalize w1.alloc (.cells #[.pointer (some ⟨i.d, 0, none⟩), .slice none 0 0, .slice none 0 0, .int .u64 now] 113) = w2 at *
  refine (HR (w2.alloc (.cells #[.int .i64 id] 3)) ⟨some ⟨w1.heap.size + 1, 0, none⟩, 1, 1⟩ (HX.out.nil ((Fr.refl _ _).alloc _)) hrd.out).out.mono ?_
  rintro e w3 ⟨rfl, h3, hf3⟩
  have hq3 := (hq2.alloc (.cells #[.int .i64 id] 3)).fr hf3 (fun e => Nat.lt_irrefl _ (hold.out _ e))
  have F3 : Fr (DepIds.T { i with lim := w.heap.size } w1.heap.size) w w3 := ((f2.alloc (.cells #[.int .i64 id] 3)).trans hf3).mono (fun _ _ e => .inl e)
  clear hf3 HR hq2 f2 HX hrd f1
  obtain ⟨va, vo, ft1, ft2, fr⟩ := h3.deed.told
  obtain ⟨fA, fn, fa, fO, fm, fo, rfl, rfl⟩ := fr.shape
  have fr0 := hq3.cell 0
  have fr1 := hq3.cell 1
  have fz0 := hq3.free 0
  have fz1 := hq3.free 1
  simp at fr0 fr1
  have fq2 := (hq3.set 0 (.slice fA fn fa)).set 1 (.slice fO fm fo)
  have fs0 := fq2.cell 0
  have fs1 := fq2.cell 1
  simp at fs0 fs1
  have HFin := Lib.hid (XAt.finish (w := w) (err := 0) hold.out (Nat.le_refl _) h3 fr hqx F3)
  clear fq2 fr
  go_wp2_with fail
  exact bodyPost_ret (v := .tuple #[.agg #[.slice fA fn fa, .slice fO fm fo], .int .i64 0]) (by simp [results, Try.results15, go_sem, fs0, fs1]) rfl HFin.out

/-- A call that comes: what is told, how the dependency stands, the error. -/
def Dp.offerOf (D : Dp) (now : Int) (a m : Sl) (al : List Int) (ml : List (Int × Int)) : Deed × Dp × Int :=
  if leadOf ml < 1 then (⟨[], [], now⟩, D, 1)
  else if D.knows (leadOf ml) then (⟨[], [], now⟩, D, 4)
  else ((D.offer ⟨[], [], now⟩ (leadOf ml) ⟨⟨a, m, 1, 0, 0, now⟩, al, ml⟩).1, (D.offer ⟨[], [], now⟩ (leadOf ml) ⟨⟨a, m, 1, 0, 0, now⟩, al, ml⟩).2, 0)

set_option maxRecDepth 100000 in
set_option maxHeartbeats 3200000 in
theorem dep_offer (i : DepIds) (D : Dp) (now : Int) (a m : Sl) (al : List Int) (ml : List (Int × Int)) (w : World) (h : DepAt w i D) (hn : U64 now) (ha : Rd w (fun k => i.S k ∨ i.ex k) a 1 al.length (ints al)) (hm : Rd w (fun k => i.S k ∨ i.ex k) m 2 ml.length (pairs ml)) :
    Calls Try.prog 13 #[.pointer (some ⟨i.d, 0, none⟩), .int .u64 now, .agg #[a.val, m.val]] w (ResPost w i (D.offerOf now a m al ml).2.1 (D.offerOf now a m al ml).1 (D.offerOf now a m al ml).2.2) := by
  have hold := Lib.hid h.old
  have H0 := Lib.hid (h.relim w.heap.size (Nat.le_refl _))
  have HA := Lib.hid (ha.mono (M' := DepIds.M { i with lim := w.heap.size }) (fun b hb e => by rcases e with e | e | e; exact .inl e; exact .inr e; simp only at e; omega))
  have HM := Lib.hid (hm.mono (M' := DepIds.M { i with lim := w.heap.size }) (fun b hb e => by rcases e with e | e | e; exact .inl e; exact .inr e; simp only at e; omega))
  have HL := fun W (f : Fr Nil w W) => Lib.hid (batch_lead _ a m ml W (HM.out.fr f (fun _ _ x => x.elim)))
  have HO := Lib.hid (show D.offerOf now a m al ml = if leadOf ml < 1 then (⟨[], [], now⟩, D, 1) else if D.knows (leadOf ml) then (⟨[], [], now⟩, D, 4) else ((D.offer ⟨[], [], now⟩ (leadOf ml) ⟨⟨a, m, 1, 0, 0, now⟩, al, ml⟩).1, (D.offer ⟨[], [], now⟩ (leadOf ml) ⟨⟨a, m, 1, 0, 0, now⟩, al, ml⟩).2, 0) from rfl)
  have HN := Lib.hid hn
  generalize D.offerOf now a m al ml = RES at *
  generalize leadOf ml = id at *
  obtain ⟨aa, an, ac⟩ := a
  obtain ⟨ma, mn, mc⟩ := m
  unfold Sl.val at *
  simp only at *
  clear h ha hm hn
  have g0 : Fr Nil w ((w.alloc (.cells #[.slice aa an ac, .slice ma mn mc] 70)).alloc (.cells #[.slice none 0 0, .slice none 0 0] 62)) := ((Fr.refl _ _).alloc _).alloc _
  have hq0 := Blk.new (w.alloc (.cells #[.slice aa an ac, .slice ma mn mc] 70)) (.cells #[.slice none 0 0, .slice none 0 0] 62)
  rw [World.size_alloc] at hq0
  have hp0 := (Blk.new w (.cells #[.slice aa an ac, .slice ma mn mc] 70)).alloc (.cells #[.slice none 0 0, .slice none 0 0] 62)
  have HK := fun W (f : Fr Nil w W) => Lib.hid (dep_knows { i with lim := w.heap.size } D id W (H0.out.nil f))
  by_cases h1 : id < 1
  · have hd1 : decide (id < 1) = true := by simpa using h1
    have hR : RES = (⟨[], [], now⟩, D, 1) := by rw [HO.out, if_pos h1]
    subst hR
    dsimp only
    clear HO
    go_enter Try.func13, Try.ntmps13
    go_wp2_with fail
    refine (HL _ g0).out.mono ?_
    rintro e w1 ⟨rfl, hf1⟩
    have g1 := g0.trans hf1
    have hq1 := hq0.fr hf1 (fun x => x)
    have r0 := hq1.cell 0
    have r1 := hq1.cell 1
    have z0 := hq1.free 0
    have z1 := hq1.free 1
    simp at r0 r1
    have hq2 := (hq1.set 0 (.slice none 0 0)).set 1 (.slice none 0 0)
    have s0 := hq2.cell 0
    have s1 := hq2.cell 1
    simp at s0 s1
    have HFin := Lib.hid (DepAt.nothing (err := 1) (now := now) (q := w.heap.size + 1) hold.out (Nat.le_succ _) (H0.out.nil g1) (g1.mono (fun _ _ e => e.elim)))
    clear hq0 hq1 hq2 hp0 hf1 HL HK g0 g1
    go_wp2_with fail
    exact bodyPost_ret (v := .tuple #[.agg #[.slice none 0 0, .slice none 0 0], .int .i64 1]) (by simp [results, Try.results13, go_sem, s0, s1]) rfl HFin.out
  · have hd1 : decide (id < 1) = false := by simpa using h1
    by_cases hk : D.knows id = true
    · rw [hk] at HK
      have hR : RES = (⟨[], [], now⟩, D, 4) := by rw [HO.out, if_neg h1, if_pos hk]
      subst hR
      dsimp only
      clear HO hk h1
      go_enter Try.func13, Try.ntmps13
      go_wp2_with fail
      refine (HL _ g0).out.mono ?_
      rintro e w1 ⟨rfl, hf1⟩
      go_wp2_with fail
      refine (HK _ (g0.trans hf1)).out.mono ?_
      rintro e w2 ⟨rfl, hf2⟩
      have g1 := (g0.trans hf1).trans hf2
      have hq1 := (hq0.fr hf1 (fun x => x)).fr hf2 (fun x => x)
      have r0 := hq1.cell 0
      have r1 := hq1.cell 1
      have z0 := hq1.free 0
      have z1 := hq1.free 1
      simp at r0 r1
      have hq2 := (hq1.set 0 (.slice none 0 0)).set 1 (.slice none 0 0)
      have s0 := hq2.cell 0
      have s1 := hq2.cell 1
      simp at s0 s1
      have HFin := Lib.hid (DepAt.nothing (err := 4) (now := now) (q := w.heap.size + 1) hold.out (Nat.le_succ _) (H0.out.nil g1) (g1.mono (fun _ _ e => e.elim)))
      clear hq0 hq1 hq2 hp0 hf1 hf2 HL HK g0 g1
      go_wp2_with fail
      exact bodyPost_ret (v := .tuple #[.agg #[.slice none 0 0, .slice none 0 0], .int .i64 4]) (by simp [results, Try.results13, go_sem, s0, s1]) rfl HFin.out
    · have hkf : D.knows id = false := by simpa using hk
      rw [hkf] at HK
      have hR : RES = ((D.offer ⟨[], [], now⟩ id ⟨⟨⟨aa, an, ac⟩, ⟨ma, mn, mc⟩, 1, 0, 0, now⟩, al, ml⟩).1, (D.offer ⟨[], [], now⟩ id ⟨⟨⟨aa, an, ac⟩, ⟨ma, mn, mc⟩, 1, 0, 0, now⟩, al, ml⟩).2, 0) := by rw [HO.out, if_neg h1, if_neg hk]
      subst hR
      dsimp only
      have HB := fun W => Lib.hid (call_begin ⟨aa, an, ac⟩ ⟨ma, mn, mc⟩ now W)
      unfold CallR.val Sl.val at HB
      simp only at HB
      have HCl : Cl.At w (DepIds.M { i with lim := w.heap.size }) ⟨⟨⟨aa, an, ac⟩, ⟨ma, mn, mc⟩, 1, 0, 0, now⟩, al, ml⟩ := ⟨HA.out, HM.out, by simp, HN.out⟩
      have HCl2 := Lib.hid HCl
      have HOf := fun W x (hW : XAt W x { i with lim := w.heap.size } ⟨[], [], now⟩ D) hc => Lib.hid (deed_offer x { i with lim := w.heap.size } ⟨[], [], now⟩ D id ⟨⟨⟨aa, an, ac⟩, ⟨ma, mn, mc⟩, 1, 0, 0, now⟩, al, ml⟩ W hW hc (by simp) (by simp))
      unfold CallR.val Sl.val at HOf
      simp only at HOf
      generalize D.offer ⟨[], [], now⟩ id ⟨⟨⟨aa, an, ac⟩, ⟨ma, mn, mc⟩, 1, 0, 0, now⟩, al, ml⟩ = OO at *
      clear HO hk h1 hkf HCl
      go_enter Try.func13, Try.ntmps13
      go_wp2_with fail
      refine (HL _ g0).out.mono ?_
      rintro e w1 ⟨rfl, hf1⟩
      go_wp2_with fail
      refine (HK _ (g0.trans hf1)).out.mono ?_
      rintro e w2 ⟨rfl, hf2⟩
      have g2 := (g0.trans hf1).trans hf2
      have hq2 := ((hq0.fr hf1 (fun x => x)).fr hf2 (fun x => x)).alloc (.cells #[.pointer (some ⟨i.d, 0, none⟩), .slice none 0 0, .slice none 0 0, .int .u64 now] 113)
      have hp2 := ((hp0.fr hf1 (fun x => x)).fr hf2 (fun x => x)).alloc (.cells #[.pointer (some ⟨i.d, 0, none⟩), .slice none 0 0, .slice none 0 0, .int .u64 now] 113)
      have hqx := ((hq0.fr hf1 (fun x => x)).fr hf2 (fun x => x)).lt
      have c0 := hp2.cell 0
      have c1 := hp2.cell 1
      simp at c0 c1
      have hx2 := XAt.start (H0.out.nil g2) (show DepIds.lim { i with lim := w.heap.size } ≤ w2.heap.size from g2.size) now HN.out
      have g3 := g2.alloc (.cells #[.pointer (some ⟨i.d, 0, none⟩), .slice none 0 0, .slice none 0 0, .int .u64 now] 113)
      have HX := Lib.hid hx2
      clear hf1 hf2 hq0 hp0 HL HK g0 g2 hx2 hp2
      go_wp2_with fail
      refine (HB _).out.mono ?_
      rintro e w3 ⟨rfl, hf3⟩
      have h3 := HX.out.nil hf3
      have g4 := g3.trans hf3
      have hq3 := hq2.fr hf3 (fun x => x)
      have HOf3 := HOf w3 w2.heap.size h3 (HCl2.out.fr g4 (fun _ _ e => e.elim))
      clear hf3 h3 HOf hq2 g3 HX c0 c1 HB
      go_wp2_with fail
      refine HOf3.out.mono ?_
      rintro e w4 ⟨rfl, h4, hf4⟩
      have hq4 := hq3.fr hf4 (fun e => by rcases e with e | e; exact Nat.lt_irrefl _ (Nat.lt_of_lt_of_le (hold.out _ e) (Nat.le_succ _)); omega)
      have F4 : Fr (DepIds.T { i with lim := w.heap.size } w2.heap.size) w w4 := (g4.mono (fun _ _ e => e.elim)).trans hf4
      clear hf4 hq3 g4 HOf3
      obtain ⟨va, vo, ft1, ft2, fr⟩ := h4.deed.told
      obtain ⟨fA, fn, fa, fO, fm, fo, rfl, rfl⟩ := fr.shape
      have fr0 := hq4.cell 0
      have fr1 := hq4.cell 1
      have fz0 := hq4.free 0
      have fz1 := hq4.free 1
      simp at fr0 fr1
      have fq2 := (hq4.set 0 (.slice fA fn fa)).set 1 (.slice fO fm fo)
      have fs0 := fq2.cell 0
      have fs1 := fq2.cell 1
      simp at fs0 fs1
      have HFin := Lib.hid (XAt.finish (w := w) (err := 0) hold.out (Nat.le_succ _) h4 fr hqx F4)
      clear fq2 fr
      go_wp2_with fail
      exact bodyPost_ret (v := .tuple #[.agg #[.slice fA fn fa, .slice fO fm fo], .int .i64 0]) (by simp [results, Try.results13, go_sem, fs0, fs1]) rfl HFin.out

end Go.Proofs.Ythnaieeaominjaa
