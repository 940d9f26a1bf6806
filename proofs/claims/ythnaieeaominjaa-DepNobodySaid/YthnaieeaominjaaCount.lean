/-
  Package dep: a deed on a dependency; count.
-/
import Derived.Test.YthnaieeaominjaaDeed
import Derived.Test.YthnaieeaominjaaHealth
namespace Go.Proofs.Ythnaieeaominjaa
open Go.RowKit
set_option linter.unusedVariables false
set_option linter.unusedSimpArgs false

/-- A deed x on the dependency i: what the deed makes lies from x on. -/
structure XAt (w : World) (x : Nat) (i : DepIds) (E : Deed) (D : Dp) : Prop where
  deed : DeedAt w x i.d E
  dep : DepAt w i D
  below : ∀ k, i.S k → k < x
  lim : i.lim ≤ x

/-- What a deed on a dependency may turn. -/
def DepIds.T (i : DepIds) (x : Nat) : Nat → Prop := fun k => i.S k ∨ x ≤ k
def XPost (w : World) (x : Nat) (i : DepIds) (v : Value) (E : Deed) (D : Dp) (e : Ending) (w' : World) : Prop := e = .returned v ∧ XAt w' x i E D ∧ Fr (i.T x) w w'

/-- The same, of one that turns the dependency alone. -/
def SPost (w : World) (x : Nat) (i : DepIds) (v : Value) (E : Deed) (D : Dp) (e : Ending) (w' : World) : Prop := e = .returned v ∧ XAt w' x i E D ∧ Fr i.S w w'

section
variable {w w' : World} {x : Nat} {i : DepIds} {E E' : Deed} {D D' : Dp}
theorem XAt.deed_on (h : XAt w x i E D) (hd : DeedAt w' x i.d E') (f : Fr (From x) w w') : XAt w' x i E' D :=
  ⟨hd, h.dep.fr f (fun k hk e => Nat.lt_irrefl _ (Nat.lt_of_lt_of_le (h.below k hk) e)) (fun b _ e => .inr (.inr (Nat.le_trans h.lim e))), h.below, h.lim⟩
theorem XAt.dep_on (h : XAt w x i E D) (hd : DepAt w' i D') (f : Fr i.S w w') : XAt w' x i E D' :=
  ⟨h.deed.fr f (fun k hk _ e => Nat.lt_irrefl _ (Nat.lt_of_lt_of_le (h.below k e) hk)), hd, h.below, h.lim⟩
theorem XAt.nil (h : XAt w x i E D) (f : Fr Nil w w') : XAt w' x i E D := h.dep_on (h.dep.nil f) (f.mono (fun _ _ e => e.elim))
theorem XAt.drewN (h : XAt w x i E D) (n : Nat) : XAt (w.drewN n) x i E D := h.nil ((Fr.refl _ _).drewN n)
theorem Fr.toT {S : Nat → Prop} (f : Fr S w w') (h : ∀ k, S k → i.T x k) : Fr (i.T x) w w' := f.mono fun k _ e => h k e
theorem Fr.nilT (f : Fr Nil w w') : Fr (i.T x) w w' := f.mono fun _ _ e => e.elim
theorem Fr.depT (f : Fr i.S w w') : Fr (i.T x) w w' := f.mono fun _ _ e => .inl e
theorem Fr.fromT (f : Fr (From x) w w') : Fr (i.T x) w w' := f.mono fun _ _ e => .inr e

/-- The cells that a deed reads. -/
def BaseS (x : Nat) (i : DepIds) (now : Int) (cf : Cf) (probe : Int) (w : World) : Prop :=
  w.cell? ⟨x, 0, none⟩ = some (.pointer (some ⟨i.d, 0, none⟩)) ∧ w.cell? ⟨x, 3, none⟩ = some (.int .u64 now) ∧ w.cell? ⟨i.d, 0, none⟩ = some (.pointer (some ⟨i.brk, 0, none⟩)) ∧ w.cell? ⟨i.d, 1, none⟩ = some (.pointer (some ⟨i.bulk.b, 0, none⟩)) ∧ w.cell? ⟨i.d, 2, none⟩ = some (.int .i64 cf.mode) ∧ w.cell? ⟨i.d, 3, none⟩ = some (.int .i64 cf.pool) ∧ w.cell? ⟨i.d, 4, none⟩ = some (.int .i64 cf.queue) ∧ w.cell? ⟨i.d, 5, none⟩ = some (.int .i64 cf.sem) ∧ w.cell? ⟨i.d, 6, none⟩ = some (.int .i64 cf.fb) ∧ w.cell? ⟨i.d, 7, none⟩ = some (.int .i64 cf.chain) ∧ w.cell? ⟨i.d, 8, none⟩ = some (.int .u64 cf.tmo) ∧ w.cell? ⟨i.d, 9, none⟩ = some (.int .u64 cf.fbt) ∧ w.cell? ⟨i.d, 10, none⟩ = some (.int .i64 cf.vol) ∧ w.cell? ⟨i.d, 11, none⟩ = some (.int .i64 cf.pct) ∧ w.cell? ⟨i.d, 12, none⟩ = some (.int .u64 cf.sleep) ∧ w.cell? ⟨i.d, 13, none⟩ = some (.int .i64 cf.bkts) ∧ w.cell? ⟨i.d, 14, none⟩ = some (.int .u64 cf.width) ∧ w.cell? ⟨i.d, 15, none⟩ = some (.int .u64 cf.win) ∧ w.cell? ⟨i.d, 16, none⟩ = some (.int .i64 cf.bat) ∧ w.cell? ⟨i.d, 17, none⟩ = some (.int .i64 cf.force) ∧ w.cell? ⟨i.d, 18, none⟩ = some (.pointer (some ⟨i.fs, 0, none⟩)) ∧ w.cell? ⟨i.d, 19, none⟩ = some (.pointer (some ⟨i.win, 0, none⟩)) ∧ w.cell? ⟨i.d, 20, none⟩ = some (.pointer (some ⟨i.hist, 0, none⟩)) ∧ w.cell? ⟨i.d, 21, none⟩ = some (.map (some i.calls)) ∧ w.cell? ⟨i.d, 22, none⟩ = some (.int .i64 probe)
theorem XAt.baseS (h : XAt w x i E D) : BaseS x i E.now D.cf D.probe w := by
  obtain ⟨va, vo, hb, -⟩ := h.deed.rows
  have hc := h.dep.cell
  refine ⟨by rw [hb.cell]; rfl, by rw [hb.cell]; rfl, (hc 0).trans rfl, (hc 1).trans rfl, (hc 2).trans rfl, (hc 3).trans rfl, (hc 4).trans rfl, (hc 5).trans rfl, (hc 6).trans rfl, (hc 7).trans rfl, (hc 8).trans rfl, (hc 9).trans rfl, (hc 10).trans rfl, (hc 11).trans rfl, (hc 12).trans rfl, (hc 13).trans rfl, (hc 14).trans rfl, (hc 15).trans rfl, (hc 16).trans rfl, (hc 17).trans rfl, (hc 18).trans rfl, (hc 19).trans rfl, (hc 20).trans rfl, (hc 21).trans rfl, (hc 22).trans rfl⟩
end

/-- A call's cells, in a box of its own. -/
def CallS (p : Nat) (c : CallR) (w : World) : Prop :=
  w.cell? ⟨p, 0, none⟩ = some c.args.val ∧ w.cell? ⟨p, 1, none⟩ = some c.members.val ∧ w.cell? ⟨p, 2, none⟩ = some (.int .i64 c.state) ∧ w.cell? ⟨p, 3, none⟩ = some (.int .i64 c.step) ∧ w.cell? ⟨p, 4, none⟩ = some (.int .i64 c.cause) ∧ w.cell? ⟨p, 5, none⟩ = some (.int .u64 c.start)
def CallR.cells (c : CallR) : Array Value := #[c.args.val, c.members.val, .int .i64 c.state, .int .i64 c.step, .int .i64 c.cause, .int .u64 c.start]
theorem callS {w : World} {p : Nat} {c : CallR} {T : TypeId} {z : Nat × Nat} (h : Blk w p (.cells c.cells T z)) : CallS p c w := by
  refine ⟨?_, ?_, ?_, ?_, ?_, ?_⟩ <;> rw [h.cell] <;> rfl
def BaseC (x : Nat) (i : DepIds) (now : Int) (cf : Cf) (probe : Int) (p : Nat) (c : CallR) (w : World) : Prop := BaseS x i now cf probe w ∧ CallS p c w

theorem counts_five {w : World} {p : Nat} {g : Grid} {now : Int} (h : GridAt 6 154 w p (g.turn 5 now).2) : ∃ a b c d e, g.counts now = [a, b, c, d, e] ∧ ∀ y ∈ [a, b, c, d, e], U64 y := by
  have hl : (g.counts now).length = 5 := sumUp_length (s := 6) h.2 h.2.n8
  have hu : ∀ y ∈ g.counts now, U64 y := sumUp_u64 h.2 h.2.n8
  obtain ⟨a, b, c, d, e, he⟩ := five hl
  exact ⟨a, b, c, d, e, he, he ▸ hu⟩

/-- A call is counted as something. -/
def Dp.count (D : Dp) (now id : Int) (kind : Nat) : Dp :=
  if D.probe = id then
    { D with probe := 0, brk := (D.brk.done now (decide (kind = 0))).2, win := if kind = 0 then (D.win.add now kind 1).reset 6 else D.win.add now kind 1 }
  else
    { D with win := ((D.win.add now kind 1).turn 5 now).2, brk := if opensOf ((D.win.add now kind 1).counts now) D.cf.vol D.cf.pct then (D.brk.trip now).2 else D.brk }


theorem window_counts5 (p : Nat) (g : Grid) (now : Int) (w : World) (h : GridAt 6 154 w p g) (hnow : U64 now) :
    Calls Try.prog 35 #[.pointer (some ⟨p, 0, none⟩), .int .u64 now] w fun en w' => ∃ a b c d e, en = .returned (.agg #[.int .u64 a, .int .u64 b, .int .u64 c, .int .u64 d, .int .u64 e]) ∧ g.counts now = [a, b, c, d, e] ∧ (∀ y ∈ [a, b, c, d, e], U64 y) ∧
      GridAt 6 154 w' p (g.turn 5 now).2 ∧ Fr (Only p) w w' := by
  refine (window_counts p g now w h hnow).mono ?_
  rintro en w' ⟨rfl, hg, hf⟩
  obtain ⟨a, b, c, d, e, he, hu⟩ := counts_five hg
  exact ⟨a, b, c, d, e, by rw [he]; rfl, he, hu, hg, hf⟩

theorem Only.inS {i : DepIds} {w w' : World} {a : Nat} (ha : a < 11 := by decide) (f : Fr (Only (i.nth a)) w w') : Fr i.S w w' := f.mono fun k _ e => by cases e; exact i.mem a ha

set_option maxRecDepth 100000 in
set_option maxHeartbeats 1600000 in
theorem deed_count_other (x : Nat) (i : DepIds) (E : Deed) (D : Dp) (id : Int) (kind : Nat) (hk : kind < 5) (w : World) (h : XAt w x i E D) (hp : D.probe ≠ id) :
    Calls Try.prog 47 #[.pointer (some ⟨x, 0, none⟩), .int .i64 id, .int .i64 kind] w (SPost w x i (.tuple #[]) E (D.count E.now id kind)) := by
  have HN := Lib.hid h.deed.now
  have HT := Lib.hid h.dep.typed
  have hw0 := h.drewN 1
  have hs0 := hw0.baseS
  have HA := Lib.hid (window_add i.win D.win E.now 1 kind (w.drewN 1) hw0.dep.win h.deed.now (by unfold U64; omega) hk)
  have H0 := Lib.hid hw0
  have hpb : (D.probe != id) = true := by simpa using hp
  have HC := Lib.hid (show D.count E.now id kind = { D with win := ((D.win.add E.now kind 1).turn 5 E.now).2, brk := if opensOf ((D.win.add E.now kind 1).counts E.now) D.cf.vol D.cf.pct then (D.brk.trip E.now).2 else D.brk } by unfold Dp.count; rw [if_neg hp])
  clear hw0 h hk hp
  go_enter Try.func47, Try.ntmps47
  go_wp2_with fail
  refine region_ord (BaseS x i E.now D.cf D.probe) [(true, 0), (true, 1), (true, 2), (true, 3), (true, 4), (true, 5), (true, 6), (true, 7), (true, 8), (true, 9), (true, 10), (true, 11), (false, 12)] (by kernel_rfl) (by kernel_rfl) (fun _ _ d _ _ h => by cases d <;> exact h) hs0 ?_
  simp only [opsAt, List.filterMap_cons, List.filterMap_nil, List.getElem?_toArray, List.getElem?_cons_zero, List.getElem?_cons_succ, Option.map_some]
  repeat ((refine seqS_take (v := ?_) rfl ?_ ?_); rotate_left; (focus (intro wS hS; unfold BaseS at hS; go_split_ands; go_simp; first | done | with_reducible rfl)); (simp only [Act.put, List.setIfInBounds_toArray, List.set_cons_zero, List.set_cons_succ]))
  refine seqS_last ?_
  go_wp2_with fail
  refine HA.out.mono ?_
  rintro e w1 ⟨rfl, hg1, hf1⟩
  have f1 : Fr i.S w w1 := ((Fr.refl _ _).drewN 1).trans (Only.inS (a := 8) (f := hf1))
  have h1 := H0.out.dep_on (H0.out.dep.upd_win hg1 hf1) (Only.inS (a := 8) (f := hf1))
  have hs1 : BaseS x i E.now D.cf D.probe w1 := h1.baseS
  have q1 := hs1
  unfold BaseS at q1
  obtain ⟨x0, -, d0, -, -, -, -, -, -, -, -, -, -, -, -, -, -, -, -, -, -, -, -, -, d22⟩ := q1
  have HC1 := Lib.hid (window_counts5 i.win _ E.now (w1.drewN 1) (h1.drewN 1).dep.win HN.out)
  have H1 := Lib.hid h1
  have F1 := Lib.hid f1
  clear hg1 hf1 h1 f1 HA hs0 d0
  go_wp2_with fail
  clear x0 d22
  refine region_ord (BaseS x i E.now D.cf D.probe) [(true, 0), (true, 1), (true, 2), (true, 3), (true, 4), (true, 5), (true, 6), (true, 7), (true, 8), (true, 9), (true, 10), (true, 12), (true, 13), (true, 14), (true, 15), (true, 16), (true, 17), (true, 18), (false, 11), (false, 19)] (by kernel_rfl) (by kernel_rfl) (fun _ _ d _ _ h => by cases d <;> exact h) hs1 ?_
  simp only [opsAt, List.filterMap_cons, List.filterMap_nil, List.getElem?_toArray, List.getElem?_cons_zero, List.getElem?_cons_succ, Option.map_some]
  repeat ((refine seqS_take (v := ?_) rfl ?_ ?_); rotate_left; (focus (intro wS hS; unfold BaseS at hS; go_split_ands; go_simp; first | done | with_reducible rfl)); (simp only [Act.put, List.setIfInBounds_toArray, List.set_cons_zero, List.set_cons_succ]))
  refine seqS_more ?_
  go_wp2_with fail
  refine HC1.out.mono ?_
  rintro en w2 ⟨a, b, c, dd, e5, rfl, he, hu, hg2, hf2⟩
  have h2 := H1.out.dep_on (H1.out.dep.upd_win hg2 (((Fr.refl _ _).drewN 1).trans hf2)) (((Fr.refl _ _).drewN 1).trans (Only.inS (a := 8) (f := hf2)))
  have F2 := Lib.hid (F1.out.trans (((Fr.refl _ _).drewN 1).trans (Only.inS (a := 8) (f := hf2))))
  have hs2 : BaseS x i E.now D.cf D.probe w2 := h2.baseS
  have HO := health_opens a b c dd e5 D.cf w2 hu HT.out.vol HT.out.pct
  unfold Cf.val Cf.cells at HO
  have HO2 := Lib.hid HO
  rw [he] at HC
  generalize hop : opensOf [a, b, c, dd, e5] D.cf.vol D.cf.pct = op at *
  have H2 := Lib.hid h2
  clear hg2 hf2 h2 HC1 HO H1 F1 he hu hop
  go_wp2_with fail
  refine Thn.mk ⟨hs2, ?_⟩
  refine seqS_last ?_
  go_wp2_with fail
  refine HO2.out.mono ?_
  rintro en w3 ⟨rfl, hf3⟩
  have h3 := H2.out.nil hf3
  have F3 := Lib.hid (F2.out.trans (hf3.mono (fun _ _ e => e.elim)))
  have hs3 : BaseS x i E.now D.cf D.probe w3 := h3.baseS
  have HT3 := Lib.hid (brk_trip i.brk _ E.now (w3.drewN 1) (h3.drewN 1).dep.brk HN.out)
  have H3 := Lib.hid h3
  clear hf3 h3 HO2 hs2 H2 F2
  cases op
  · go_wp2_with fail
    go_end0
    refine ⟨rfl, ?_, F3.out⟩
    rw [HC.out]
    exact H3.out
  · go_wp2_with fail
    refine region_ord (BaseS x i E.now D.cf D.probe) [(true, 0), (true, 1), (true, 2), (true, 3), (true, 4), (true, 5), (true, 6), (true, 7), (true, 8), (true, 9), (true, 10), (false, 11)] (by kernel_rfl) (by kernel_rfl) (fun _ _ d _ _ h => by cases d <;> exact h) hs3 ?_
    simp only [opsAt, List.filterMap_cons, List.filterMap_nil, List.getElem?_toArray, List.getElem?_cons_zero, List.getElem?_cons_succ, Option.map_some]
    repeat ((refine seqS_take (v := ?_) rfl ?_ ?_); rotate_left; (focus (intro wS hS; unfold BaseS at hS; go_split_ands; go_simp; first | done | with_reducible rfl)); (simp only [Act.put, List.setIfInBounds_toArray, List.set_cons_zero, List.set_cons_succ]))
    refine seqS_last ?_
    go_wp2_with fail
    refine HT3.out.mono ?_
    rintro en w4 ⟨rfl, hb4, hf4⟩
    have h4 := H3.out.dep_on (H3.out.dep.upd_brk hb4 (((Fr.refl _ _).drewN 1).trans hf4)) (((Fr.refl _ _).drewN 1).trans (Only.inS (a := 1) (f := hf4)))
    have F4 := Lib.hid (F3.out.trans (((Fr.refl _ _).drewN 1).trans (Only.inS (a := 1) (f := hf4))))
    have H4 := Lib.hid h4
    clear h4 hb4 hf4 H3 HT3
    go_wp2_with fail
    go_end0
    refine ⟨rfl, ?_, F4.out⟩
    rw [HC.out]
    exact H4.out

set_option maxRecDepth 100000 in
set_option maxHeartbeats 1600000 in
theorem deed_count_probe (x : Nat) (i : DepIds) (E : Deed) (D : Dp) (kind : Nat) (hk : kind < 5) (w : World) (h : XAt w x i E D) :
    Calls Try.prog 47 #[.pointer (some ⟨x, 0, none⟩), .int .i64 D.probe, .int .i64 kind] w (SPost w x i (.tuple #[]) E (D.count E.now D.probe kind)) := by
  have HN := Lib.hid h.deed.now
  have hw0 := h.drewN 1
  have hs0 := hw0.baseS
  have HA := Lib.hid (window_add i.win D.win E.now 1 kind (w.drewN 1) hw0.dep.win h.deed.now (by unfold U64; omega) hk)
  have H0 := Lib.hid hw0
  obtain ⟨b, hb⟩ : ∃ b, decide (kind = 0) = b := ⟨_, rfl⟩
  have hkb : ((kind : Int) == 0) = b := by rw [← hb, Bool.eq_iff_iff]; simp
  have HC := Lib.hid (show D.count E.now D.probe kind = { D with probe := 0, brk := (D.brk.done E.now b).2, win := if b then (D.win.add E.now kind 1).reset 6 else D.win.add E.now kind 1 } by unfold Dp.count; rw [if_pos rfl, hb]; cases b <;> simp_all)
  clear hw0 h hk hb
  go_enter Try.func47, Try.ntmps47
  go_wp2_with fail
  refine region_ord (BaseS x i E.now D.cf D.probe) [(true, 0), (true, 1), (true, 2), (true, 3), (true, 4), (true, 5), (true, 6), (true, 7), (true, 8), (true, 9), (true, 10), (true, 11), (false, 12)] (by kernel_rfl) (by kernel_rfl) (fun _ _ d _ _ h => by cases d <;> exact h) hs0 ?_
  simp only [opsAt, List.filterMap_cons, List.filterMap_nil, List.getElem?_toArray, List.getElem?_cons_zero, List.getElem?_cons_succ, Option.map_some]
  repeat ((refine seqS_take (v := ?_) rfl ?_ ?_); rotate_left; (focus (intro wS hS; unfold BaseS at hS; go_split_ands; go_simp; first | done | with_reducible rfl)); (simp only [Act.put, List.setIfInBounds_toArray, List.set_cons_zero, List.set_cons_succ]))
  refine seqS_last ?_
  go_wp2_with fail
  refine HA.out.mono ?_
  rintro e w1 ⟨rfl, hg1, hf1⟩
  have f1 : Fr i.S w w1 := ((Fr.refl _ _).drewN 1).trans (Only.inS (a := 8) (f := hf1))
  have h1 := H0.out.dep_on (H0.out.dep.upd_win hg1 hf1) (Only.inS (a := 8) (f := hf1))
  have hs1 : BaseS x i E.now D.cf D.probe w1 := h1.baseS
  have q1 := hs1
  unfold BaseS at q1
  obtain ⟨x0, -, -, -, -, -, -, -, -, -, -, -, -, -, -, -, -, -, -, -, -, -, -, -, d22⟩ := q1
  have fz := h1.dep.blk.free 22
  have f2 : Fr i.S w1 (w1.setCell ⟨i.d, 22, none⟩ (.int .i64 0)) := (Fr.refl _ _).setAt _ (i.mem 0)
  have H2 := Lib.hid (h1.dep_on (h1.dep.upd_probe 0) f2)
  have F2 := Lib.hid (f1.trans f2)
  clear hg1 hf1 h1 f1 f2 HA hs0 hs1
  go_wp2_with fail
  generalize w1.setCell ⟨i.d, 22, none⟩ (.int .i64 0) = w2 at *
  clear x0 d22 fz
  have hs2 : BaseS x i E.now D.cf 0 w2 := H2.out.baseS
  have HD := Lib.hid (brk_done i.brk _ E.now b (w2.drewN 1) (H2.out.drewN 1).dep.brk HN.out)
  refine region_ord (BaseS x i E.now D.cf 0) [(true, 0), (true, 1), (true, 2), (true, 3), (true, 4), (true, 5), (true, 6), (true, 7), (true, 8), (true, 9), (true, 10), (true, 11), (true, 12), (false, 13)] (by kernel_rfl) (by kernel_rfl) (fun _ _ d _ _ h => by cases d <;> exact h) hs2 ?_
  simp only [opsAt, List.filterMap_cons, List.filterMap_nil, List.getElem?_toArray, List.getElem?_cons_zero, List.getElem?_cons_succ, Option.map_some]
  repeat ((refine seqS_take (v := ?_) rfl ?_ ?_); rotate_left; (focus (intro wS hS; unfold BaseS at hS; go_split_ands; go_simp; first | done | with_reducible rfl)); (simp only [Act.put, List.setIfInBounds_toArray, List.set_cons_zero, List.set_cons_succ]))
  refine seqS_last ?_
  go_wp2_with fail
  refine HD.out.mono ?_
  rintro en w3 ⟨rfl, hb3, hf3⟩
  have h3 := H2.out.dep_on (H2.out.dep.upd_brk hb3 (((Fr.refl _ _).drewN 1).trans hf3)) (((Fr.refl _ _).drewN 1).trans (Only.inS (a := 1) (f := hf3)))
  have F3 := Lib.hid (F2.out.trans (((Fr.refl _ _).drewN 1).trans (Only.inS (a := 1) (f := hf3))))
  have q3 : BaseS x i E.now D.cf 0 w3 := h3.baseS
  unfold BaseS at q3
  obtain ⟨x0, -, -, -, -, -, -, -, -, -, -, -, -, -, -, -, -, -, -, -, -, d19, -⟩ := q3
  have HR := Lib.hid (window_reset i.win _ w3 h3.dep.win)
  have H3 := Lib.hid h3
  clear hs2 HD hb3 hf3 h3 H2 F2
  cases b
  · go_wp2_with fail
    go_end0
    refine ⟨rfl, ?_, F3.out⟩
    rw [HC.out]
    exact H3.out
  · go_wp2_with fail
    refine HR.out.mono ?_
    rintro en w4 ⟨rfl, hg4, hf4⟩
    have H4 := Lib.hid (H3.out.dep_on (H3.out.dep.upd_win hg4 hf4) (Only.inS (a := 8) (f := hf4)))
    have F4 := Lib.hid (F3.out.trans (Only.inS (a := 8) (f := hf4)))
    clear hg4 hf4 H3 HR x0 d19
    go_wp2_with fail
    go_end0
    refine ⟨rfl, ?_, F4.out⟩
    rw [HC.out]
    exact H4.out

theorem deed_count (x : Nat) (i : DepIds) (E : Deed) (D : Dp) (id : Int) (kind : Nat) (hk : kind < 5) (w : World) (h : XAt w x i E D) :
    Calls Try.prog 47 #[.pointer (some ⟨x, 0, none⟩), .int .i64 id, .int .i64 kind] w (SPost w x i (.tuple #[]) E (D.count E.now id kind)) := by
  by_cases hp : D.probe = id
  · subst hp
    exact deed_count_probe x i E D kind hk w h
  · exact deed_count_other x i E D id kind hk w h hp

end Go.Proofs.Ythnaieeaominjaa
