/-
  Package dep: Snap.
-/
import Derived.Test.YthnaieeaominjaaLate
import Derived.Test.YthnaieeaominjaaTree
namespace Go.Proofs.Ythnaieeaominjaa
open Go.RowKit
set_option linter.unusedVariables false
set_option linter.unusedSimpArgs false

/-- How a dependency stands behind a look. -/
def Dp.seen (D : Dp) (now : Int) : Dp := { D with win := (D.win.turn 5 now).2 }
/-- What a look tells. -/
def Dp.snap (D : Dp) (now : Int) : List Int := [(D.bulk.set.held.length : Int), (D.bulk.wait.q.length : Int), (D.falls.held.length : Int), (D.calls.length : Int), D.brk.state]
def SnapPost (w : World) (i : DepIds) (D : Dp) (now : Int) (e : Ending) (w' : World) : Prop :=
  ∃ half all : Int, U64 half ∧ U64 all ∧ e = .returned (.agg (ints (D.snap now) ++ u64s (D.win.counts now) ++ u64s [half, all]).toArray) ∧ DepAt w' { i with lim := w'.heap.size } (D.seen now) ∧ Fr i.S w w'

def SnapS (i : DepIds) (w : World) : Prop :=
  w.cell? ⟨i.d, 0, none⟩ = some (.pointer (some ⟨i.brk, 0, none⟩)) ∧ w.cell? ⟨i.d, 1, none⟩ = some (.pointer (some ⟨i.bulk.b, 0, none⟩)) ∧ w.cell? ⟨i.d, 18, none⟩ = some (.pointer (some ⟨i.fs, 0, none⟩)) ∧
  w.cell? ⟨i.d, 19, none⟩ = some (.pointer (some ⟨i.win, 0, none⟩)) ∧ w.cell? ⟨i.d, 20, none⟩ = some (.pointer (some ⟨i.hist, 0, none⟩)) ∧ w.cell? ⟨i.d, 21, none⟩ = some (.map (some i.calls))
theorem DepAt.snapS {w : World} {i : DepIds} {D : Dp} (h : DepAt w i D) : SnapS i w := ⟨h.cell 0, h.cell 1, h.cell 18, h.cell 19, h.cell 20, h.cell 21⟩

/-- Where the looks are put together: how it stands there. -/
def SnapMid (w0 : World) (i : DepIds) (D : Dp) (now : Int) (q : Nat) (e : Exit) (fa : Act) (w' : World) : Prop :=
  e = .normal ∧ ∃ (u9 u10 u11 u12 u13 u14 u15 u16 u17 u18 u19 u20 u21 u22 u23 u24 u25 u26 u27 u28 u29 u30 u31 u32 u33 u34 u35 u36 u37 u38 u39 u40 u41 : Value) (p : Nat) (n0 n1 n2 n3 n4 a b c d e5 : Int), fa = ⟨#[.pointer (some ⟨i.d, 0, none⟩), .int .u64 now, undef, undef, .pointer (some ⟨q, 0, none⟩), .pointer (some ⟨p, 0, none⟩), .pointer (some ⟨i.d, 0, none⟩), .bool false, undef, u9, u10, u11, u12, u13, u14, u15, u16, u17, u18, u19, u20, u21, u22, u23, u24, u25, u26, u27, u28, u29, u30, u31, u32, u33, u34, u35, u36, u37, u38, u39, u40, u41, undef, undef, undef, undef, undef, undef, undef, undef, undef, undef, undef, undef, undef, undef, undef, undef, undef, undef, undef, undef, undef], []⟩ ∧ Blk w' p (.cells #[.int .i64 n0, .int .i64 n1, .int .i64 n2, .int .i64 n3, .int .i64 n4, .int .u64 a, .int .u64 b, .int .u64 c, .int .u64 d, .int .u64 e5, .int .u64 0, .int .u64 0] 58 (0, 0)) ∧ w0.heap.size ≤ p ∧ q ≠ p ∧ Blk w' q (.cells #[.int .i64 0, .int .i64 0, .int .i64 0, .int .i64 0, .int .i64 0, .int .u64 0, .int .u64 0, .int .u64 0, .int .u64 0, .int .u64 0, .int .u64 0, .int .u64 0] 58) ∧
    [n0, n1, n2, n3, n4] = D.snap now ∧ D.win.counts now = [a, b, c, d, e5] ∧ DepAt w' { i with lim := w0.heap.size } (D.seen now) ∧ Fr i.S w0 w'

theorem snap_put2 {w : World} {p : Nat} {n0 n1 n2 n3 n4 a b c d e5 x y : Int} (h : Blk w p (.cells #[.int .i64 0, .int .i64 0, .int .i64 0, .int .i64 0, .int .i64 0, .int .u64 0, .int .u64 0, .int .u64 0, .int .u64 0, .int .u64 0, .int .u64 0, .int .u64 0] 58 (0, 0))) : Blk ((((((((((((w.setCell ⟨p, 0, none⟩ (.int .i64 n0)).setCell ⟨p, 1, none⟩ (.int .i64 n1)).setCell ⟨p, 2, none⟩ (.int .i64 n2)).setCell ⟨p, 3, none⟩ (.int .i64 n3)).setCell ⟨p, 4, none⟩ (.int .i64 n4)).setCell ⟨p, 5, none⟩ (.int .u64 a)).setCell ⟨p, 6, none⟩ (.int .u64 b)).setCell ⟨p, 7, none⟩ (.int .u64 c)).setCell ⟨p, 8, none⟩ (.int .u64 d)).setCell ⟨p, 9, none⟩ (.int .u64 e5)).setCell ⟨p, 10, none⟩ (.int .u64 x)).setCell ⟨p, 11, none⟩ (.int .u64 y)) p (.cells #[.int .i64 n0, .int .i64 n1, .int .i64 n2, .int .i64 n3, .int .i64 n4, .int .u64 a, .int .u64 b, .int .u64 c, .int .u64 d, .int .u64 e5, .int .u64 x, .int .u64 y] 58 (0, 0)) ∧ Fr (Only p) w ((((((((((((w.setCell ⟨p, 0, none⟩ (.int .i64 n0)).setCell ⟨p, 1, none⟩ (.int .i64 n1)).setCell ⟨p, 2, none⟩ (.int .i64 n2)).setCell ⟨p, 3, none⟩ (.int .i64 n3)).setCell ⟨p, 4, none⟩ (.int .i64 n4)).setCell ⟨p, 5, none⟩ (.int .u64 a)).setCell ⟨p, 6, none⟩ (.int .u64 b)).setCell ⟨p, 7, none⟩ (.int .u64 c)).setCell ⟨p, 8, none⟩ (.int .u64 d)).setCell ⟨p, 9, none⟩ (.int .u64 e5)).setCell ⟨p, 10, none⟩ (.int .u64 x)).setCell ⟨p, 11, none⟩ (.int .u64 y)) :=
  ⟨by simpa using ((((((((((((h.set 0 (.int .i64 n0)).set 1 (.int .i64 n1)).set 2 (.int .i64 n2)).set 3 (.int .i64 n3)).set 4 (.int .i64 n4)).set 5 (.int .u64 a)).set 6 (.int .u64 b)).set 7 (.int .u64 c)).set 8 (.int .u64 d)).set 9 (.int .u64 e5)).set 10 (.int .u64 x)).set 11 (.int .u64 y)), (((((((((((((Fr.refl _ _).setAt _ (Only.self _)).setAt _ (Only.self _)).setAt _ (Only.self _)).setAt _ (Only.self _)).setAt _ (Only.self _)).setAt _ (Only.self _)).setAt _ (Only.self _)).setAt _ (Only.self _)).setAt _ (Only.self _)).setAt _ (Only.self _)).setAt _ (Only.self _)).setAt _ (Only.self _))⟩
theorem snap_put {w : World} {p : Nat} {n0 n1 n2 n3 n4 a b c d e5 : Int} (h : Blk w p (.cells #[.int .i64 0, .int .i64 0, .int .i64 0, .int .i64 0, .int .i64 0, .int .u64 0, .int .u64 0, .int .u64 0, .int .u64 0, .int .u64 0, .int .u64 0, .int .u64 0] 58 (0, 0))) : Blk ((((((((((((w.setCell ⟨p, 0, none⟩ (.int .i64 n0)).setCell ⟨p, 1, none⟩ (.int .i64 n1)).setCell ⟨p, 2, none⟩ (.int .i64 n2)).setCell ⟨p, 3, none⟩ (.int .i64 n3)).setCell ⟨p, 4, none⟩ (.int .i64 n4)).setCell ⟨p, 5, none⟩ (.int .u64 a)).setCell ⟨p, 6, none⟩ (.int .u64 b)).setCell ⟨p, 7, none⟩ (.int .u64 c)).setCell ⟨p, 8, none⟩ (.int .u64 d)).setCell ⟨p, 9, none⟩ (.int .u64 e5)).setCell ⟨p, 10, none⟩ (.int .u64 0)).setCell ⟨p, 11, none⟩ (.int .u64 0)) p (.cells #[.int .i64 n0, .int .i64 n1, .int .i64 n2, .int .i64 n3, .int .i64 n4, .int .u64 a, .int .u64 b, .int .u64 c, .int .u64 d, .int .u64 e5, .int .u64 0, .int .u64 0] 58 (0, 0)) ∧ Fr (Only p) w ((((((((((((w.setCell ⟨p, 0, none⟩ (.int .i64 n0)).setCell ⟨p, 1, none⟩ (.int .i64 n1)).setCell ⟨p, 2, none⟩ (.int .i64 n2)).setCell ⟨p, 3, none⟩ (.int .i64 n3)).setCell ⟨p, 4, none⟩ (.int .i64 n4)).setCell ⟨p, 5, none⟩ (.int .u64 a)).setCell ⟨p, 6, none⟩ (.int .u64 b)).setCell ⟨p, 7, none⟩ (.int .u64 c)).setCell ⟨p, 8, none⟩ (.int .u64 d)).setCell ⟨p, 9, none⟩ (.int .u64 e5)).setCell ⟨p, 10, none⟩ (.int .u64 0)).setCell ⟨p, 11, none⟩ (.int .u64 0)) :=
  ⟨by simpa using ((((((((((((h.set 0 (.int .i64 n0)).set 1 (.int .i64 n1)).set 2 (.int .i64 n2)).set 3 (.int .i64 n3)).set 4 (.int .i64 n4)).set 5 (.int .u64 a)).set 6 (.int .u64 b)).set 7 (.int .u64 c)).set 8 (.int .u64 d)).set 9 (.int .u64 e5)).set 10 (.int .u64 0)).set 11 (.int .u64 0)), (((((((((((((Fr.refl _ _).setAt _ (Only.self _)).setAt _ (Only.self _)).setAt _ (Only.self _)).setAt _ (Only.self _)).setAt _ (Only.self _)).setAt _ (Only.self _)).setAt _ (Only.self _)).setAt _ (Only.self _)).setAt _ (Only.self _)).setAt _ (Only.self _)).setAt _ (Only.self _)).setAt _ (Only.self _))⟩
theorem DepAt.len_calls {w : World} {i : DepIds} {D : Dp} {ty : TypeId} (h : DepAt w i D) : (Builtin.len_ #[98] ty #[.map (some i.calls)]).run Try.prog w = .ok (.int .i64 D.calls.length) w := by
  rw [run_len_map Try.underlying98 h.calls.1]; simp [callKV]

set_option maxRecDepth 100000 in
set_option maxHeartbeats 12800000 in
theorem dep_snap (i : DepIds) (D : Dp) (now : Int) (w : World) (h : DepAt w i D) (hn : U64 now) :
    Calls Try.prog 11 #[.pointer (some ⟨i.d, 0, none⟩), .int .u64 now] w (SnapPost w i D now) := by
  have hold := Lib.hid h.old
  have h0 := h.relim w.heap.size (Nat.le_refl _)
  have hq0 := (Blk.new w (.cells #[.int .i64 0, .int .i64 0, .int .i64 0, .int .i64 0, .int .i64 0, .int .u64 0, .int .u64 0, .int .u64 0, .int .u64 0, .int .u64 0, .int .u64 0, .int .u64 0] 58)).drewN 1
  have HBusy := fun W (hW : DepAt W { i with lim := w.heap.size } D) => Lib.hid (bulk_busy i.bulk D.bulk W hW.bulk)
  have HWait := fun W (hW : DepAt W { i with lim := w.heap.size } D) => Lib.hid (bulk_waiting i.bulk D.bulk W hW.bulk)
  have HFalls := fun W (hW : DepAt W { i with lim := w.heap.size } D) => Lib.hid (permit_used i.fs i.fm D.falls W hW.falls)
  have HBrk := fun W (hW : DepAt W { i with lim := w.heap.size } D) => Lib.hid (brk_state i.brk D.brk W hW.brk)
  have HCnt := fun W (hW : DepAt W { i with lim := w.heap.size } D) => Lib.hid (window_counts5 i.win D.win now W hW.win hn)
  have hD := (h0.nil ((Fr.refl Nil w).alloc (.cells #[.int .i64 0, .int .i64 0, .int .i64 0, .int .i64 0, .int .i64 0, .int .u64 0, .int .u64 0, .int .u64 0, .int .u64 0, .int .u64 0, .int .u64 0, .int .u64 0] 58))).nil ((Fr.refl _ _).drewN 1)
  have G : Fr i.S w ((w.alloc (.cells #[.int .i64 0, .int .i64 0, .int .i64 0, .int .i64 0, .int .i64 0, .int .u64 0, .int .u64 0, .int .u64 0, .int .u64 0, .int .u64 0, .int .u64 0, .int .u64 0] 58)).drewN 1) := ((Fr.refl _ _).alloc _).drewN 1
  clear h h0
  go_enter Try.func11, Try.ntmps11
  go_wp2_with fail
  refine Code.wp_mono (Q := SnapMid w i D now w.heap.size) ?_ ?_
  · rintro e fa wm ⟨rfl, u9, u10, u11, u12, u13, u14, u15, u16, u17, u18, u19, u20, u21, u22, u23, u24, u25, u26, u27, u28, u29, u30, u31, u32, u33, u34, u35, u36, u37, u38, u39, u40, u41, p, n0, n1, n2, n3, n4, a, b, c, d, e5, rfl, hp, hpge, hqp, hq, hsnap, hcnt, hd, hG⟩
    have HSn := Lib.hid hsnap
    have HCn := Lib.hid hcnt
    have d20 := hd.cell 20
    simp [DepIds.cells] at d20
    have HP1 := Lib.hid (hist_percentile i.hist now 50 wm hd.hist hn (by unfold I64; omega))
    have HD := Lib.hid hd
    clear hsnap hcnt hd HBusy HWait HFalls HBrk HCnt hD G hq0
    go_wp2_with fail
    refine HP1.out.mono ?_
    rintro e w1 ⟨half, b1, hu1, rfl, hh1, f1⟩
    have fi1 : Fr i.S wm w1 := Only.inS (a := 9) (f := f1)
    have hp1 := hp.fr fi1 (fun e => by have := hold.out _ e; omega)
    have hq1 := hq.fr fi1 (fun e => Nat.lt_irrefl _ (hold.out _ e))
    have hd1 := HD.out.upd_hist hh1 f1
    have G1 := hG.trans fi1
    have e10 := (hp1.cell 10).trans (show _ = some (.int .u64 0) from rfl)
    have z10 := hp1.free 10
    have hp2 := hp1.set 10 (.int .u64 half)
    have fo2 : Fr (Only p) w1 (w1.setCell ⟨p, 10, none⟩ (.int .u64 half)) := (Fr.refl _ _).setAt _ (Only.self _)
    have hq2 := hq1.fr fo2 (fun e => by unfold Only at e; omega)
    have hd2 := hd1.fr fo2 (fun k hk e => by unfold Only at e; have := hold.out _ hk; omega) (fun b _ e => by unfold Only at e; subst e; exact .inr (.inr (by simp only; omega)))
    have G2 := G1.step fo2 (fun k hk e => by unfold Only at e; omega)
    have d20 := hd2.cell 20
    simp [DepIds.cells] at d20
    have HP2 := Lib.hid (hist_percentile i.hist now 100 _ hd2.hist hn (by unfold I64; omega))
    have HU1 := Lib.hid hu1
    have HD2 := Lib.hid hd2
    clear HP1 HD hG fi1 hp hq hp1 hq1 hd1 G1 fo2 hh1 f1 hu1 hd2
    go_wp2_with fail
    generalize w1.setCell ⟨p, 10, none⟩ (.int .u64 half) = w2 at *
    clear e10 z10 d20
    refine HP2.out.mono ?_
    rintro e w3 ⟨al, b2, hu2, rfl, hh3, f3⟩
    have fi3 : Fr i.S w2 w3 := Only.inS (a := 9) (f := f3)
    have hp3 := hp2.fr fi3 (fun e => by have := hold.out _ e; omega)
    have hq3 := hq2.fr fi3 (fun e => Nat.lt_irrefl _ (hold.out _ e))
    have hd3 := HD2.out.upd_hist hh3 f3
    have G3 := G2.trans fi3
    have e11 := (hp3.cell 11).trans (show _ = some (.int .u64 0) from rfl)
    have z11 := hp3.free 11
    have hp4 := hp3.set 11 (.int .u64 al)
    have fo4 : Fr (Only p) w3 (w3.setCell ⟨p, 11, none⟩ (.int .u64 al)) := (Fr.refl _ _).setAt _ (Only.self _)
    have hq4 := hq3.fr fo4 (fun e => by unfold Only at e; omega)
    have hd4 := hd3.fr fo4 (fun k hk e => by unfold Only at e; have := hold.out _ hk; omega) (fun b _ e => by unfold Only at e; subst e; exact .inr (.inr (by simp only; omega)))
    have G4 := G3.step fo4 (fun k hk e => by unfold Only at e; omega)
    have pc0 := (hp4.cell 0).trans (show _ = some (.int .i64 n0) from rfl)
    have pc1 := (hp4.cell 1).trans (show _ = some (.int .i64 n1) from rfl)
    have pc2 := (hp4.cell 2).trans (show _ = some (.int .i64 n2) from rfl)
    have pc3 := (hp4.cell 3).trans (show _ = some (.int .i64 n3) from rfl)
    have pc4 := (hp4.cell 4).trans (show _ = some (.int .i64 n4) from rfl)
    have pc5 := (hp4.cell 5).trans (show _ = some (.int .u64 a) from rfl)
    have pc6 := (hp4.cell 6).trans (show _ = some (.int .u64 b) from rfl)
    have pc7 := (hp4.cell 7).trans (show _ = some (.int .u64 c) from rfl)
    have pc8 := (hp4.cell 8).trans (show _ = some (.int .u64 d) from rfl)
    have pc9 := (hp4.cell 9).trans (show _ = some (.int .u64 e5) from rfl)
    have pc10 := (hp4.cell 10).trans (show _ = some (.int .u64 half) from rfl)
    have pc11 := (hp4.cell 11).trans (show _ = some (.int .u64 al) from rfl)
    have qc0 := (hq4.cell 0).trans (show _ = some (.int .i64 0) from rfl)
    have qz0 := hq4.free 0
    have qc1 := (hq4.cell 1).trans (show _ = some (.int .i64 0) from rfl)
    have qz1 := hq4.free 1
    have qc2 := (hq4.cell 2).trans (show _ = some (.int .i64 0) from rfl)
    have qz2 := hq4.free 2
    have qc3 := (hq4.cell 3).trans (show _ = some (.int .i64 0) from rfl)
    have qz3 := hq4.free 3
    have qc4 := (hq4.cell 4).trans (show _ = some (.int .i64 0) from rfl)
    have qz4 := hq4.free 4
    have qc5 := (hq4.cell 5).trans (show _ = some (.int .u64 0) from rfl)
    have qz5 := hq4.free 5
    have qc6 := (hq4.cell 6).trans (show _ = some (.int .u64 0) from rfl)
    have qz6 := hq4.free 6
    have qc7 := (hq4.cell 7).trans (show _ = some (.int .u64 0) from rfl)
    have qz7 := hq4.free 7
    have qc8 := (hq4.cell 8).trans (show _ = some (.int .u64 0) from rfl)
    have qz8 := hq4.free 8
    have qc9 := (hq4.cell 9).trans (show _ = some (.int .u64 0) from rfl)
    have qz9 := hq4.free 9
    have qc10 := (hq4.cell 10).trans (show _ = some (.int .u64 0) from rfl)
    have qz10 := hq4.free 10
    have qc11 := (hq4.cell 11).trans (show _ = some (.int .u64 0) from rfl)
    have qz11 := hq4.free 11
    obtain ⟨hqV, fqV⟩ := snap_put2 (n0 := n0) (n1 := n1) (n2 := n2) (n3 := n3) (n4 := n4) (a := a) (b := b) (c := c) (d := d) (e5 := e5) (x := half) (y := al) hq4
    have s0 := (hqV.cell 0).trans (show _ = some (.int .i64 n0) from rfl)
    have s1 := (hqV.cell 1).trans (show _ = some (.int .i64 n1) from rfl)
    have s2 := (hqV.cell 2).trans (show _ = some (.int .i64 n2) from rfl)
    have s3 := (hqV.cell 3).trans (show _ = some (.int .i64 n3) from rfl)
    have s4 := (hqV.cell 4).trans (show _ = some (.int .i64 n4) from rfl)
    have s5 := (hqV.cell 5).trans (show _ = some (.int .u64 a) from rfl)
    have s6 := (hqV.cell 6).trans (show _ = some (.int .u64 b) from rfl)
    have s7 := (hqV.cell 7).trans (show _ = some (.int .u64 c) from rfl)
    have s8 := (hqV.cell 8).trans (show _ = some (.int .u64 d) from rfl)
    have s9 := (hqV.cell 9).trans (show _ = some (.int .u64 e5) from rfl)
    have s10 := (hqV.cell 10).trans (show _ = some (.int .u64 half) from rfl)
    have s11 := (hqV.cell 11).trans (show _ = some (.int .u64 al) from rfl)
    have hd5 := hd4.fr fqV (fun k hk e => by unfold Only at e; have := hold.out _ hk; omega) (fun b _ e => by unfold Only at e; subst e; exact .inr (.inr (Nat.le_refl _)))
    have HFin : SnapPost w i D now (.returned (.agg (ints (D.snap now) ++ u64s (D.win.counts now) ++ u64s [half, al]).toArray)) _ := ⟨half, al, HU1.out, hu2, rfl, hd5.relim _ (Nat.le_refl _), G4.step fqV (fun k hk e => by unfold Only at e; omega)⟩
    rw [← HSn.out, HCn.out] at HFin
    have HF := Lib.hid HFin
    clear HP2 HD2 G2 G3 G4 fi3 fo4 hp2 hq2 hp3 hq3 hp4 hq4 hd3 hd4 hd5 hh3 f3 hu2 hqV fqV HFin
    go_wp2_with fail
    exact bodyPost_ret (v := .agg #[.int .i64 n0, .int .i64 n1, .int .i64 n2, .int .i64 n3, .int .i64 n4, .int .u64 a, .int .u64 b, .int .u64 c, .int .u64 d, .int .u64 e5, .int .u64 half, .int .u64 al]) (by simp [results, Try.results11, go_sem, s0, s1, s2, s3, s4, s5, s6, s7, s8, s9, s10, s11]) rfl HF.out
  refine region_plan (SnapS { i with lim := w.heap.size }) (.take 0 (.take 1 (.take 2 (.take 3 (.take 5 (.take 6 (.take 7 (.take 8 (.take 11 (.take 12 (.take 13 (.take 14 (.take 16 (.take 17 (.take 18 (.take 19 (.take 21 (.take 22 (.take 23 (.take 24 (.take 26 (.take 27 (.take 28 (.take 29 (.take 30 (.two 4 33 (.two 9 33 (.take 10 (.two 15 33 (.two 20 33 (.two 25 33 (.two 31 33 (.take 32 (.one 33 (.one 34 .nil))) (.one 31 (.take 32 (.one 34 .nil)))) (.one 25 (.one 31 (.take 32 (.one 34 .nil))))) (.one 20 (.one 25 (.one 31 (.take 32 (.one 34 .nil)))))) (.one 15 (.one 20 (.one 25 (.one 31 (.take 32 (.one 34 .nil)))))))) (.one 9 (.take 10 (.one 15 (.one 20 (.one 25 (.one 31 (.take 32 (.one 34 .nil))))))))) (.one 4 (.one 9 (.take 10 (.one 15 (.one 20 (.one 25 (.one 31 (.take 32 (.one 34 .nil))))))))))))))))))))))))))))))))))) (by kernel_rfl) (by kernel_rfl) (fun _ _ _ _ _ h => absurd h.1 (by simp)) hD.snapS ?_
  generalize (w.alloc (.cells #[.int .i64 0, .int .i64 0, .int .i64 0, .int .i64 0, .int .i64 0, .int .u64 0, .int .u64 0, .int .u64 0, .int .u64 0, .int .u64 0, .int .u64 0, .int .u64 0] 58)).drewN 1 = wA at *
  repeat ((refine treeS_take (v := ?_) rfl rfl ?_ ?_); rotate_left; (focus (intro wS hS; unfold SnapS at hS; go_split_ands; go_simp; first | done | with_reducible rfl)); (simp only [Act.put, List.setIfInBounds_toArray, List.set_cons_zero, List.set_cons_succ]))
  refine treeS_two rfl rfl ?_ ?_
  · go_wp2_with fail
    refine (HBusy _ hD).out.mono ?_
    rintro e w1 ⟨rfl, rfl⟩
    go_wp2_with fail
    refine Thn.mk ⟨hD.snapS, ?_⟩
    refine treeS_two rfl rfl ?_ ?_
    · go_wp2_with fail
      refine (HWait _ hD).out.mono ?_
      rintro e w2 ⟨f2, s, rfl, hs⟩
      obtain ⟨sA, sc, rfl⟩ := own_shape hs
      replace hD := hD.nil f2
      replace G := G.trans (f2.mono (fun _ _ e => e.elim))
      replace hq0 := hq0.fr f2 (fun x => x)
      clear f2 hs
      go_wp2_with fail
      refine Thn.mk ⟨hD.snapS, ?_⟩
      (refine treeS_take (v := ?_) rfl rfl ?_ ?_); rotate_left; (focus (intro wS hS; unfold SnapS at hS; go_split_ands; go_simp; first | done | with_reducible rfl)); (simp only [Act.put, List.setIfInBounds_toArray, List.set_cons_zero, List.set_cons_succ])
      refine treeS_two rfl rfl ?_ ?_
      · go_wp2_with fail
        refine (HFalls _ hD).out.mono ?_
        rintro e w3 ⟨rfl, rfl⟩
        go_wp2_with fail
        refine Thn.mk ⟨hD.snapS, ?_⟩
        refine treeS_two rfl rfl ?_ ?_
        · have hlen := DepAt.len_calls (ty := 3) hD
          go_wp2_with fail
          refine Thn.mk ⟨hD.snapS, ?_⟩
          clear hlen
          refine treeS_two rfl rfl ?_ ?_
          · go_wp2_with fail
            refine (HBrk _ hD).out.mono ?_
            rintro e w5 ⟨rfl, rfl⟩
            go_wp2_with fail
            refine Thn.mk ⟨hD.snapS, ?_⟩
            refine treeS_two rfl rfl ?_ ?_
            · go_wp2_with fail
              refine (HCnt _ hD).out.mono ?_
              rintro e w6 ⟨a, b, c, d, e5, rfl, hc5, -, hg, f6⟩
              replace hD := hD.upd_win hg f6
              replace G := G.trans (Only.inS (a := 8) (f := f6))
              replace hq0 := hq0.fr (Only.inS (i := i) (a := 8) (f := f6)) (fun e => Nat.lt_irrefl _ (hold.out _ e))
              clear hg f6
              go_wp2_with fail
              refine Thn.mk ⟨hD.snapS, ?_⟩
              (refine treeS_take (v := ?_) rfl rfl ?_ ?_); rotate_left; (focus (intro wS hS; unfold SnapS at hS; go_split_ands; go_simp; first | done | with_reducible rfl)); (simp only [Act.put, List.setIfInBounds_toArray, List.set_cons_zero, List.set_cons_succ])
              refine treeS_one rfl rfl ?_
              go_wp2_with fail
              obtain ⟨p, hpe⟩ : ∃ p, p = w6.heap.size := ⟨_, rfl⟩
              have hp := Blk.new w6 (.cells #[.int .i64 0, .int .i64 0, .int .i64 0, .int .i64 0, .int .i64 0, .int .u64 0, .int .u64 0, .int .u64 0, .int .u64 0, .int .u64 0, .int .u64 0, .int .u64 0] 58)
              rw [← hpe] at hp ⊢
              have hpge : w.heap.size + 1 ≤ p := by have := hq0.lt; omega
              replace hD := hD.nil ((Fr.refl Nil _).alloc (.cells #[.int .i64 0, .int .i64 0, .int .i64 0, .int .i64 0, .int .i64 0, .int .u64 0, .int .u64 0, .int .u64 0, .int .u64 0, .int .u64 0, .int .u64 0, .int .u64 0] 58))
              replace G := G.alloc (.cells #[.int .i64 0, .int .i64 0, .int .i64 0, .int .i64 0, .int .i64 0, .int .u64 0, .int .u64 0, .int .u64 0, .int .u64 0, .int .u64 0, .int .u64 0, .int .u64 0] 58)
              replace hq0 := hq0.alloc (.cells #[.int .i64 0, .int .i64 0, .int .i64 0, .int .i64 0, .int .i64 0, .int .u64 0, .int .u64 0, .int .u64 0, .int .u64 0, .int .u64 0, .int .u64 0, .int .u64 0] 58)
              clear hpe
              generalize w6.alloc (.cells #[.int .i64 0, .int .i64 0, .int .i64 0, .int .i64 0, .int .i64 0, .int .u64 0, .int .u64 0, .int .u64 0, .int .u64 0, .int .u64 0, .int .u64 0, .int .u64 0] 58) = w7 at *
              refine Thn.mk ⟨hD.snapS, ?_⟩
              have p0 := (hp.cell 0).trans (show _ = some (.int .i64 0) from rfl)
              have p1 := (hp.cell 1).trans (show _ = some (.int .i64 0) from rfl)
              have p2 := (hp.cell 2).trans (show _ = some (.int .i64 0) from rfl)
              have p3 := (hp.cell 3).trans (show _ = some (.int .i64 0) from rfl)
              have p4 := (hp.cell 4).trans (show _ = some (.int .i64 0) from rfl)
              have p5 := (hp.cell 5).trans (show _ = some (.int .u64 0) from rfl)
              have p6 := (hp.cell 6).trans (show _ = some (.int .u64 0) from rfl)
              have p7 := (hp.cell 7).trans (show _ = some (.int .u64 0) from rfl)
              have p8 := (hp.cell 8).trans (show _ = some (.int .u64 0) from rfl)
              have p9 := (hp.cell 9).trans (show _ = some (.int .u64 0) from rfl)
              have p10 := (hp.cell 10).trans (show _ = some (.int .u64 0) from rfl)
              have p11 := (hp.cell 11).trans (show _ = some (.int .u64 0) from rfl)
              have z0 := hp.free 0
              have z1 := hp.free 1
              have z2 := hp.free 2
              have z3 := hp.free 3
              have z4 := hp.free 4
              have z5 := hp.free 5
              have z6 := hp.free 6
              have z7 := hp.free 7
              have z8 := hp.free 8
              have z9 := hp.free 9
              have z10 := hp.free 10
              have z11 := hp.free 11
              obtain ⟨hpV, fp⟩ := snap_put (n0 := D.bulk.set.held.length) (n1 := D.bulk.wait.q.length) (n2 := D.falls.held.length) (n3 := D.calls.length) (n4 := D.brk.state) (a := a) (b := b) (c := c) (d := d) (e5 := e5) hp
              refine treeS_last rfl ?_
              go_wp2_with fail
              generalize ((((((((((((w7.setCell ⟨p, 0, none⟩ (.int .i64 D.bulk.set.held.length)).setCell ⟨p, 1, none⟩ (.int .i64 D.bulk.wait.q.length)).setCell ⟨p, 2, none⟩ (.int .i64 D.falls.held.length)).setCell ⟨p, 3, none⟩ (.int .i64 D.calls.length)).setCell ⟨p, 4, none⟩ (.int .i64 D.brk.state)).setCell ⟨p, 5, none⟩ (.int .u64 a)).setCell ⟨p, 6, none⟩ (.int .u64 b)).setCell ⟨p, 7, none⟩ (.int .u64 c)).setCell ⟨p, 8, none⟩ (.int .u64 d)).setCell ⟨p, 9, none⟩ (.int .u64 e5)).setCell ⟨p, 10, none⟩ (.int .u64 0)).setCell ⟨p, 11, none⟩ (.int .u64 0)) = wL at *
              have hpS : ∀ k, i.S k → ¬ k = p := fun k hk e => by have := hold.out _ hk; omega
              exact ⟨rfl, _, _, _, _, _, _, _, _, _, _, _, _, _, _, _, _, _, _, _, _, _, _, _, _, _, _, _, _, _, _, _, _, _, p, _, _, _, _, _, _, _, _, _, _, rfl, hpV, by omega, by omega, hq0.fr fp (fun e => by unfold Only at e; omega), rfl, hc5, hD.fr fp hpS (fun b _ e => by unfold Only at e; subst e; exact .inr (.inr (by simp only; omega))), G.step fp (fun k hk e => by unfold Only at e; omega)⟩
            · go_wp2_with fail
              obtain ⟨p, hpe⟩ : ∃ p, p = w2.heap.size := ⟨_, rfl⟩
              have hp := Blk.new w2 (.cells #[.int .i64 0, .int .i64 0, .int .i64 0, .int .i64 0, .int .i64 0, .int .u64 0, .int .u64 0, .int .u64 0, .int .u64 0, .int .u64 0, .int .u64 0, .int .u64 0] 58)
              rw [← hpe] at hp ⊢
              have hpge : w.heap.size + 1 ≤ p := by have := hq0.lt; omega
              replace hD := hD.nil ((Fr.refl Nil _).alloc (.cells #[.int .i64 0, .int .i64 0, .int .i64 0, .int .i64 0, .int .i64 0, .int .u64 0, .int .u64 0, .int .u64 0, .int .u64 0, .int .u64 0, .int .u64 0, .int .u64 0] 58))
              replace G := G.alloc (.cells #[.int .i64 0, .int .i64 0, .int .i64 0, .int .i64 0, .int .i64 0, .int .u64 0, .int .u64 0, .int .u64 0, .int .u64 0, .int .u64 0, .int .u64 0, .int .u64 0] 58)
              replace hq0 := hq0.alloc (.cells #[.int .i64 0, .int .i64 0, .int .i64 0, .int .i64 0, .int .i64 0, .int .u64 0, .int .u64 0, .int .u64 0, .int .u64 0, .int .u64 0, .int .u64 0, .int .u64 0] 58)
              clear hpe
              generalize w2.alloc (.cells #[.int .i64 0, .int .i64 0, .int .i64 0, .int .i64 0, .int .i64 0, .int .u64 0, .int .u64 0, .int .u64 0, .int .u64 0, .int .u64 0, .int .u64 0, .int .u64 0] 58) = w6 at *
              refine Thn.mk ⟨hD.snapS, ?_⟩
              refine treeS_one rfl rfl ?_
              go_wp2_with fail
              refine (HCnt _ hD).out.mono ?_
              rintro e w7 ⟨a, b, c, d, e5, rfl, hc5, -, hg, f7⟩
              replace hD := hD.upd_win hg f7
              replace G := G.trans (Only.inS (a := 8) (f := f7))
              replace hq0 := hq0.fr (Only.inS (i := i) (a := 8) (f := f7)) (fun e => Nat.lt_irrefl _ (hold.out _ e))
              replace hp := hp.fr (Only.inS (i := i) (a := 8) (f := f7)) (fun e => by have := hold.out _ e; omega)
              clear hg f7
              go_wp2_with fail
              refine Thn.mk ⟨hD.snapS, ?_⟩
              (refine treeS_take (v := ?_) rfl rfl ?_ ?_); rotate_left; (focus (intro wS hS; unfold SnapS at hS; go_split_ands; go_simp; first | done | with_reducible rfl)); (simp only [Act.put, List.setIfInBounds_toArray, List.set_cons_zero, List.set_cons_succ])
              have p0 := (hp.cell 0).trans (show _ = some (.int .i64 0) from rfl)
              have p1 := (hp.cell 1).trans (show _ = some (.int .i64 0) from rfl)
              have p2 := (hp.cell 2).trans (show _ = some (.int .i64 0) from rfl)
              have p3 := (hp.cell 3).trans (show _ = some (.int .i64 0) from rfl)
              have p4 := (hp.cell 4).trans (show _ = some (.int .i64 0) from rfl)
              have p5 := (hp.cell 5).trans (show _ = some (.int .u64 0) from rfl)
              have p6 := (hp.cell 6).trans (show _ = some (.int .u64 0) from rfl)
              have p7 := (hp.cell 7).trans (show _ = some (.int .u64 0) from rfl)
              have p8 := (hp.cell 8).trans (show _ = some (.int .u64 0) from rfl)
              have p9 := (hp.cell 9).trans (show _ = some (.int .u64 0) from rfl)
              have p10 := (hp.cell 10).trans (show _ = some (.int .u64 0) from rfl)
              have p11 := (hp.cell 11).trans (show _ = some (.int .u64 0) from rfl)
              have z0 := hp.free 0
              have z1 := hp.free 1
              have z2 := hp.free 2
              have z3 := hp.free 3
              have z4 := hp.free 4
              have z5 := hp.free 5
              have z6 := hp.free 6
              have z7 := hp.free 7
              have z8 := hp.free 8
              have z9 := hp.free 9
              have z10 := hp.free 10
              have z11 := hp.free 11
              obtain ⟨hpV, fp⟩ := snap_put (n0 := D.bulk.set.held.length) (n1 := D.bulk.wait.q.length) (n2 := D.falls.held.length) (n3 := D.calls.length) (n4 := D.brk.state) (a := a) (b := b) (c := c) (d := d) (e5 := e5) hp
              refine treeS_last rfl ?_
              go_wp2_with fail
              generalize ((((((((((((w7.setCell ⟨p, 0, none⟩ (.int .i64 D.bulk.set.held.length)).setCell ⟨p, 1, none⟩ (.int .i64 D.bulk.wait.q.length)).setCell ⟨p, 2, none⟩ (.int .i64 D.falls.held.length)).setCell ⟨p, 3, none⟩ (.int .i64 D.calls.length)).setCell ⟨p, 4, none⟩ (.int .i64 D.brk.state)).setCell ⟨p, 5, none⟩ (.int .u64 a)).setCell ⟨p, 6, none⟩ (.int .u64 b)).setCell ⟨p, 7, none⟩ (.int .u64 c)).setCell ⟨p, 8, none⟩ (.int .u64 d)).setCell ⟨p, 9, none⟩ (.int .u64 e5)).setCell ⟨p, 10, none⟩ (.int .u64 0)).setCell ⟨p, 11, none⟩ (.int .u64 0)) = wL at *
              have hpS : ∀ k, i.S k → ¬ k = p := fun k hk e => by have := hold.out _ hk; omega
              exact ⟨rfl, _, _, _, _, _, _, _, _, _, _, _, _, _, _, _, _, _, _, _, _, _, _, _, _, _, _, _, _, _, _, _, _, _, p, _, _, _, _, _, _, _, _, _, _, rfl, hpV, by omega, by omega, hq0.fr fp (fun e => by unfold Only at e; omega), rfl, hc5, hD.fr fp hpS (fun b _ e => by unfold Only at e; subst e; exact .inr (.inr (by simp only; omega))), G.step fp (fun k hk e => by unfold Only at e; omega)⟩
          · go_wp2_with fail
            obtain ⟨p, hpe⟩ : ∃ p, p = w2.heap.size := ⟨_, rfl⟩
            have hp := Blk.new w2 (.cells #[.int .i64 0, .int .i64 0, .int .i64 0, .int .i64 0, .int .i64 0, .int .u64 0, .int .u64 0, .int .u64 0, .int .u64 0, .int .u64 0, .int .u64 0, .int .u64 0] 58)
            rw [← hpe] at hp ⊢
            have hpge : w.heap.size + 1 ≤ p := by have := hq0.lt; omega
            replace hD := hD.nil ((Fr.refl Nil _).alloc (.cells #[.int .i64 0, .int .i64 0, .int .i64 0, .int .i64 0, .int .i64 0, .int .u64 0, .int .u64 0, .int .u64 0, .int .u64 0, .int .u64 0, .int .u64 0, .int .u64 0] 58))
            replace G := G.alloc (.cells #[.int .i64 0, .int .i64 0, .int .i64 0, .int .i64 0, .int .i64 0, .int .u64 0, .int .u64 0, .int .u64 0, .int .u64 0, .int .u64 0, .int .u64 0, .int .u64 0] 58)
            replace hq0 := hq0.alloc (.cells #[.int .i64 0, .int .i64 0, .int .i64 0, .int .i64 0, .int .i64 0, .int .u64 0, .int .u64 0, .int .u64 0, .int .u64 0, .int .u64 0, .int .u64 0, .int .u64 0] 58)
            clear hpe
            generalize w2.alloc (.cells #[.int .i64 0, .int .i64 0, .int .i64 0, .int .i64 0, .int .i64 0, .int .u64 0, .int .u64 0, .int .u64 0, .int .u64 0, .int .u64 0, .int .u64 0, .int .u64 0] 58) = w5 at *
            refine Thn.mk ⟨hD.snapS, ?_⟩
            refine treeS_one rfl rfl ?_
            go_wp2_with fail
            refine (HBrk _ hD).out.mono ?_
            rintro e w6 ⟨rfl, rfl⟩
            go_wp2_with fail
            refine Thn.mk ⟨hD.snapS, ?_⟩
            refine treeS_one rfl rfl ?_
            go_wp2_with fail
            refine (HCnt _ hD).out.mono ?_
            rintro e w7 ⟨a, b, c, d, e5, rfl, hc5, -, hg, f7⟩
            replace hD := hD.upd_win hg f7
            replace G := G.trans (Only.inS (a := 8) (f := f7))
            replace hq0 := hq0.fr (Only.inS (i := i) (a := 8) (f := f7)) (fun e => Nat.lt_irrefl _ (hold.out _ e))
            replace hp := hp.fr (Only.inS (i := i) (a := 8) (f := f7)) (fun e => by have := hold.out _ e; omega)
            clear hg f7
            go_wp2_with fail
            refine Thn.mk ⟨hD.snapS, ?_⟩
            (refine treeS_take (v := ?_) rfl rfl ?_ ?_); rotate_left; (focus (intro wS hS; unfold SnapS at hS; go_split_ands; go_simp; first | done | with_reducible rfl)); (simp only [Act.put, List.setIfInBounds_toArray, List.set_cons_zero, List.set_cons_succ])
            have p0 := (hp.cell 0).trans (show _ = some (.int .i64 0) from rfl)
            have p1 := (hp.cell 1).trans (show _ = some (.int .i64 0) from rfl)
            have p2 := (hp.cell 2).trans (show _ = some (.int .i64 0) from rfl)
            have p3 := (hp.cell 3).trans (show _ = some (.int .i64 0) from rfl)
            have p4 := (hp.cell 4).trans (show _ = some (.int .i64 0) from rfl)
            have p5 := (hp.cell 5).trans (show _ = some (.int .u64 0) from rfl)
            have p6 := (hp.cell 6).trans (show _ = some (.int .u64 0) from rfl)
            have p7 := (hp.cell 7).trans (show _ = some (.int .u64 0) from rfl)
            have p8 := (hp.cell 8).trans (show _ = some (.int .u64 0) from rfl)
            have p9 := (hp.cell 9).trans (show _ = some (.int .u64 0) from rfl)
            have p10 := (hp.cell 10).trans (show _ = some (.int .u64 0) from rfl)
            have p11 := (hp.cell 11).trans (show _ = some (.int .u64 0) from rfl)
            have z0 := hp.free 0
            have z1 := hp.free 1
            have z2 := hp.free 2
            have z3 := hp.free 3
            have z4 := hp.free 4
            have z5 := hp.free 5
            have z6 := hp.free 6
            have z7 := hp.free 7
            have z8 := hp.free 8
            have z9 := hp.free 9
            have z10 := hp.free 10
            have z11 := hp.free 11
            obtain ⟨hpV, fp⟩ := snap_put (n0 := D.bulk.set.held.length) (n1 := D.bulk.wait.q.length) (n2 := D.falls.held.length) (n3 := D.calls.length) (n4 := D.brk.state) (a := a) (b := b) (c := c) (d := d) (e5 := e5) hp
            refine treeS_last rfl ?_
            go_wp2_with fail
            generalize ((((((((((((w7.setCell ⟨p, 0, none⟩ (.int .i64 D.bulk.set.held.length)).setCell ⟨p, 1, none⟩ (.int .i64 D.bulk.wait.q.length)).setCell ⟨p, 2, none⟩ (.int .i64 D.falls.held.length)).setCell ⟨p, 3, none⟩ (.int .i64 D.calls.length)).setCell ⟨p, 4, none⟩ (.int .i64 D.brk.state)).setCell ⟨p, 5, none⟩ (.int .u64 a)).setCell ⟨p, 6, none⟩ (.int .u64 b)).setCell ⟨p, 7, none⟩ (.int .u64 c)).setCell ⟨p, 8, none⟩ (.int .u64 d)).setCell ⟨p, 9, none⟩ (.int .u64 e5)).setCell ⟨p, 10, none⟩ (.int .u64 0)).setCell ⟨p, 11, none⟩ (.int .u64 0)) = wL at *
            have hpS : ∀ k, i.S k → ¬ k = p := fun k hk e => by have := hold.out _ hk; omega
            exact ⟨rfl, _, _, _, _, _, _, _, _, _, _, _, _, _, _, _, _, _, _, _, _, _, _, _, _, _, _, _, _, _, _, _, _, _, p, _, _, _, _, _, _, _, _, _, _, rfl, hpV, by omega, by omega, hq0.fr fp (fun e => by unfold Only at e; omega), rfl, hc5, hD.fr fp hpS (fun b _ e => by unfold Only at e; subst e; exact .inr (.inr (by simp only; omega))), G.step fp (fun k hk e => by unfold Only at e; omega)⟩
        · go_wp2_with fail
          obtain ⟨p, hpe⟩ : ∃ p, p = w2.heap.size := ⟨_, rfl⟩
          have hp := Blk.new w2 (.cells #[.int .i64 0, .int .i64 0, .int .i64 0, .int .i64 0, .int .i64 0, .int .u64 0, .int .u64 0, .int .u64 0, .int .u64 0, .int .u64 0, .int .u64 0, .int .u64 0] 58)
          rw [← hpe] at hp ⊢
          have hpge : w.heap.size + 1 ≤ p := by have := hq0.lt; omega
          replace hD := hD.nil ((Fr.refl Nil _).alloc (.cells #[.int .i64 0, .int .i64 0, .int .i64 0, .int .i64 0, .int .i64 0, .int .u64 0, .int .u64 0, .int .u64 0, .int .u64 0, .int .u64 0, .int .u64 0, .int .u64 0] 58))
          replace G := G.alloc (.cells #[.int .i64 0, .int .i64 0, .int .i64 0, .int .i64 0, .int .i64 0, .int .u64 0, .int .u64 0, .int .u64 0, .int .u64 0, .int .u64 0, .int .u64 0, .int .u64 0] 58)
          replace hq0 := hq0.alloc (.cells #[.int .i64 0, .int .i64 0, .int .i64 0, .int .i64 0, .int .i64 0, .int .u64 0, .int .u64 0, .int .u64 0, .int .u64 0, .int .u64 0, .int .u64 0, .int .u64 0] 58)
          clear hpe
          generalize w2.alloc (.cells #[.int .i64 0, .int .i64 0, .int .i64 0, .int .i64 0, .int .i64 0, .int .u64 0, .int .u64 0, .int .u64 0, .int .u64 0, .int .u64 0, .int .u64 0, .int .u64 0] 58) = w4 at *
          refine Thn.mk ⟨hD.snapS, ?_⟩
          refine treeS_one rfl rfl ?_
          have hlen := DepAt.len_calls (ty := 3) hD
          go_wp2_with fail
          refine Thn.mk ⟨hD.snapS, ?_⟩
          clear hlen
          refine treeS_one rfl rfl ?_
          go_wp2_with fail
          refine (HBrk _ hD).out.mono ?_
          rintro e w6 ⟨rfl, rfl⟩
          go_wp2_with fail
          refine Thn.mk ⟨hD.snapS, ?_⟩
          refine treeS_one rfl rfl ?_
          go_wp2_with fail
          refine (HCnt _ hD).out.mono ?_
          rintro e w7 ⟨a, b, c, d, e5, rfl, hc5, -, hg, f7⟩
          replace hD := hD.upd_win hg f7
          replace G := G.trans (Only.inS (a := 8) (f := f7))
          replace hq0 := hq0.fr (Only.inS (i := i) (a := 8) (f := f7)) (fun e => Nat.lt_irrefl _ (hold.out _ e))
          replace hp := hp.fr (Only.inS (i := i) (a := 8) (f := f7)) (fun e => by have := hold.out _ e; omega)
          clear hg f7
          go_wp2_with fail
          refine Thn.mk ⟨hD.snapS, ?_⟩
          (refine treeS_take (v := ?_) rfl rfl ?_ ?_); rotate_left; (focus (intro wS hS; unfold SnapS at hS; go_split_ands; go_simp; first | done | with_reducible rfl)); (simp only [Act.put, List.setIfInBounds_toArray, List.set_cons_zero, List.set_cons_succ])
          have p0 := (hp.cell 0).trans (show _ = some (.int .i64 0) from rfl)
          have p1 := (hp.cell 1).trans (show _ = some (.int .i64 0) from rfl)
          have p2 := (hp.cell 2).trans (show _ = some (.int .i64 0) from rfl)
          have p3 := (hp.cell 3).trans (show _ = some (.int .i64 0) from rfl)
          have p4 := (hp.cell 4).trans (show _ = some (.int .i64 0) from rfl)
          have p5 := (hp.cell 5).trans (show _ = some (.int .u64 0) from rfl)
          have p6 := (hp.cell 6).trans (show _ = some (.int .u64 0) from rfl)
          have p7 := (hp.cell 7).trans (show _ = some (.int .u64 0) from rfl)
          have p8 := (hp.cell 8).trans (show _ = some (.int .u64 0) from rfl)
          have p9 := (hp.cell 9).trans (show _ = some (.int .u64 0) from rfl)
          have p10 := (hp.cell 10).trans (show _ = some (.int .u64 0) from rfl)
          have p11 := (hp.cell 11).trans (show _ = some (.int .u64 0) from rfl)
          have z0 := hp.free 0
          have z1 := hp.free 1
          have z2 := hp.free 2
          have z3 := hp.free 3
          have z4 := hp.free 4
          have z5 := hp.free 5
          have z6 := hp.free 6
          have z7 := hp.free 7
          have z8 := hp.free 8
          have z9 := hp.free 9
          have z10 := hp.free 10
          have z11 := hp.free 11
          obtain ⟨hpV, fp⟩ := snap_put (n0 := D.bulk.set.held.length) (n1 := D.bulk.wait.q.length) (n2 := D.falls.held.length) (n3 := D.calls.length) (n4 := D.brk.state) (a := a) (b := b) (c := c) (d := d) (e5 := e5) hp
          refine treeS_last rfl ?_
          go_wp2_with fail
          generalize ((((((((((((w7.setCell ⟨p, 0, none⟩ (.int .i64 D.bulk.set.held.length)).setCell ⟨p, 1, none⟩ (.int .i64 D.bulk.wait.q.length)).setCell ⟨p, 2, none⟩ (.int .i64 D.falls.held.length)).setCell ⟨p, 3, none⟩ (.int .i64 D.calls.length)).setCell ⟨p, 4, none⟩ (.int .i64 D.brk.state)).setCell ⟨p, 5, none⟩ (.int .u64 a)).setCell ⟨p, 6, none⟩ (.int .u64 b)).setCell ⟨p, 7, none⟩ (.int .u64 c)).setCell ⟨p, 8, none⟩ (.int .u64 d)).setCell ⟨p, 9, none⟩ (.int .u64 e5)).setCell ⟨p, 10, none⟩ (.int .u64 0)).setCell ⟨p, 11, none⟩ (.int .u64 0)) = wL at *
          have hpS : ∀ k, i.S k → ¬ k = p := fun k hk e => by have := hold.out _ hk; omega
          exact ⟨rfl, _, _, _, _, _, _, _, _, _, _, _, _, _, _, _, _, _, _, _, _, _, _, _, _, _, _, _, _, _, _, _, _, _, p, _, _, _, _, _, _, _, _, _, _, rfl, hpV, by omega, by omega, hq0.fr fp (fun e => by unfold Only at e; omega), rfl, hc5, hD.fr fp hpS (fun b _ e => by unfold Only at e; subst e; exact .inr (.inr (by simp only; omega))), G.step fp (fun k hk e => by unfold Only at e; omega)⟩
      · go_wp2_with fail
        obtain ⟨p, hpe⟩ : ∃ p, p = w2.heap.size := ⟨_, rfl⟩
        have hp := Blk.new w2 (.cells #[.int .i64 0, .int .i64 0, .int .i64 0, .int .i64 0, .int .i64 0, .int .u64 0, .int .u64 0, .int .u64 0, .int .u64 0, .int .u64 0, .int .u64 0, .int .u64 0] 58)
        rw [← hpe] at hp ⊢
        have hpge : w.heap.size + 1 ≤ p := by have := hq0.lt; omega
        replace hD := hD.nil ((Fr.refl Nil _).alloc (.cells #[.int .i64 0, .int .i64 0, .int .i64 0, .int .i64 0, .int .i64 0, .int .u64 0, .int .u64 0, .int .u64 0, .int .u64 0, .int .u64 0, .int .u64 0, .int .u64 0] 58))
        replace G := G.alloc (.cells #[.int .i64 0, .int .i64 0, .int .i64 0, .int .i64 0, .int .i64 0, .int .u64 0, .int .u64 0, .int .u64 0, .int .u64 0, .int .u64 0, .int .u64 0, .int .u64 0] 58)
        replace hq0 := hq0.alloc (.cells #[.int .i64 0, .int .i64 0, .int .i64 0, .int .i64 0, .int .i64 0, .int .u64 0, .int .u64 0, .int .u64 0, .int .u64 0, .int .u64 0, .int .u64 0, .int .u64 0] 58)
        clear hpe
        generalize w2.alloc (.cells #[.int .i64 0, .int .i64 0, .int .i64 0, .int .i64 0, .int .i64 0, .int .u64 0, .int .u64 0, .int .u64 0, .int .u64 0, .int .u64 0, .int .u64 0, .int .u64 0] 58) = w3 at *
        refine Thn.mk ⟨hD.snapS, ?_⟩
        refine treeS_one rfl rfl ?_
        go_wp2_with fail
        refine (HFalls _ hD).out.mono ?_
        rintro e w4 ⟨rfl, rfl⟩
        go_wp2_with fail
        refine Thn.mk ⟨hD.snapS, ?_⟩
        refine treeS_one rfl rfl ?_
        have hlen := DepAt.len_calls (ty := 3) hD
        go_wp2_with fail
        refine Thn.mk ⟨hD.snapS, ?_⟩
        clear hlen
        refine treeS_one rfl rfl ?_
        go_wp2_with fail
        refine (HBrk _ hD).out.mono ?_
        rintro e w6 ⟨rfl, rfl⟩
        go_wp2_with fail
        refine Thn.mk ⟨hD.snapS, ?_⟩
        refine treeS_one rfl rfl ?_
        go_wp2_with fail
        refine (HCnt _ hD).out.mono ?_
        rintro e w7 ⟨a, b, c, d, e5, rfl, hc5, -, hg, f7⟩
        replace hD := hD.upd_win hg f7
        replace G := G.trans (Only.inS (a := 8) (f := f7))
        replace hq0 := hq0.fr (Only.inS (i := i) (a := 8) (f := f7)) (fun e => Nat.lt_irrefl _ (hold.out _ e))
        replace hp := hp.fr (Only.inS (i := i) (a := 8) (f := f7)) (fun e => by have := hold.out _ e; omega)
        clear hg f7
        go_wp2_with fail
        refine Thn.mk ⟨hD.snapS, ?_⟩
        (refine treeS_take (v := ?_) rfl rfl ?_ ?_); rotate_left; (focus (intro wS hS; unfold SnapS at hS; go_split_ands; go_simp; first | done | with_reducible rfl)); (simp only [Act.put, List.setIfInBounds_toArray, List.set_cons_zero, List.set_cons_succ])
        have p0 := (hp.cell 0).trans (show _ = some (.int .i64 0) from rfl)
        have p1 := (hp.cell 1).trans (show _ = some (.int .i64 0) from rfl)
        have p2 := (hp.cell 2).trans (show _ = some (.int .i64 0) from rfl)
        have p3 := (hp.cell 3).trans (show _ = some (.int .i64 0) from rfl)
        have p4 := (hp.cell 4).trans (show _ = some (.int .i64 0) from rfl)
        have p5 := (hp.cell 5).trans (show _ = some (.int .u64 0) from rfl)
        have p6 := (hp.cell 6).trans (show _ = some (.int .u64 0) from rfl)
        have p7 := (hp.cell 7).trans (show _ = some (.int .u64 0) from rfl)
        have p8 := (hp.cell 8).trans (show _ = some (.int .u64 0) from rfl)
        have p9 := (hp.cell 9).trans (show _ = some (.int .u64 0) from rfl)
        have p10 := (hp.cell 10).trans (show _ = some (.int .u64 0) from rfl)
        have p11 := (hp.cell 11).trans (show _ = some (.int .u64 0) from rfl)
        have z0 := hp.free 0
        have z1 := hp.free 1
        have z2 := hp.free 2
        have z3 := hp.free 3
        have z4 := hp.free 4
        have z5 := hp.free 5
        have z6 := hp.free 6
        have z7 := hp.free 7
        have z8 := hp.free 8
        have z9 := hp.free 9
        have z10 := hp.free 10
        have z11 := hp.free 11
        obtain ⟨hpV, fp⟩ := snap_put (n0 := D.bulk.set.held.length) (n1 := D.bulk.wait.q.length) (n2 := D.falls.held.length) (n3 := D.calls.length) (n4 := D.brk.state) (a := a) (b := b) (c := c) (d := d) (e5 := e5) hp
        refine treeS_last rfl ?_
        go_wp2_with fail
        generalize ((((((((((((w7.setCell ⟨p, 0, none⟩ (.int .i64 D.bulk.set.held.length)).setCell ⟨p, 1, none⟩ (.int .i64 D.bulk.wait.q.length)).setCell ⟨p, 2, none⟩ (.int .i64 D.falls.held.length)).setCell ⟨p, 3, none⟩ (.int .i64 D.calls.length)).setCell ⟨p, 4, none⟩ (.int .i64 D.brk.state)).setCell ⟨p, 5, none⟩ (.int .u64 a)).setCell ⟨p, 6, none⟩ (.int .u64 b)).setCell ⟨p, 7, none⟩ (.int .u64 c)).setCell ⟨p, 8, none⟩ (.int .u64 d)).setCell ⟨p, 9, none⟩ (.int .u64 e5)).setCell ⟨p, 10, none⟩ (.int .u64 0)).setCell ⟨p, 11, none⟩ (.int .u64 0)) = wL at *
        have hpS : ∀ k, i.S k → ¬ k = p := fun k hk e => by have := hold.out _ hk; omega
        exact ⟨rfl, _, _, _, _, _, _, _, _, _, _, _, _, _, _, _, _, _, _, _, _, _, _, _, _, _, _, _, _, _, _, _, _, _, p, _, _, _, _, _, _, _, _, _, _, rfl, hpV, by omega, by omega, hq0.fr fp (fun e => by unfold Only at e; omega), rfl, hc5, hD.fr fp hpS (fun b _ e => by unfold Only at e; subst e; exact .inr (.inr (by simp only; omega))), G.step fp (fun k hk e => by unfold Only at e; omega)⟩
    · go_wp2_with fail
      obtain ⟨p, hpe⟩ : ∃ p, p = wA.heap.size := ⟨_, rfl⟩
      have hp := Blk.new wA (.cells #[.int .i64 0, .int .i64 0, .int .i64 0, .int .i64 0, .int .i64 0, .int .u64 0, .int .u64 0, .int .u64 0, .int .u64 0, .int .u64 0, .int .u64 0, .int .u64 0] 58)
      rw [← hpe] at hp ⊢
      have hpge : w.heap.size + 1 ≤ p := by have := hq0.lt; omega
      replace hD := hD.nil ((Fr.refl Nil _).alloc (.cells #[.int .i64 0, .int .i64 0, .int .i64 0, .int .i64 0, .int .i64 0, .int .u64 0, .int .u64 0, .int .u64 0, .int .u64 0, .int .u64 0, .int .u64 0, .int .u64 0] 58))
      replace G := G.alloc (.cells #[.int .i64 0, .int .i64 0, .int .i64 0, .int .i64 0, .int .i64 0, .int .u64 0, .int .u64 0, .int .u64 0, .int .u64 0, .int .u64 0, .int .u64 0, .int .u64 0] 58)
      replace hq0 := hq0.alloc (.cells #[.int .i64 0, .int .i64 0, .int .i64 0, .int .i64 0, .int .i64 0, .int .u64 0, .int .u64 0, .int .u64 0, .int .u64 0, .int .u64 0, .int .u64 0, .int .u64 0] 58)
      clear hpe
      generalize wA.alloc (.cells #[.int .i64 0, .int .i64 0, .int .i64 0, .int .i64 0, .int .i64 0, .int .u64 0, .int .u64 0, .int .u64 0, .int .u64 0, .int .u64 0, .int .u64 0, .int .u64 0] 58) = w2 at *
      refine Thn.mk ⟨hD.snapS, ?_⟩
      refine treeS_one rfl rfl ?_
      go_wp2_with fail
      refine (HWait _ hD).out.mono ?_
      rintro e w3 ⟨f3, s, rfl, hs⟩
      obtain ⟨sA, sc, rfl⟩ := own_shape hs
      replace hD := hD.nil f3
      replace G := G.trans (f3.mono (fun _ _ e => e.elim))
      replace hq0 := hq0.fr f3 (fun x => x)
      replace hp := hp.fr f3 (fun x => x)
      clear f3 hs
      go_wp2_with fail
      refine Thn.mk ⟨hD.snapS, ?_⟩
      (refine treeS_take (v := ?_) rfl rfl ?_ ?_); rotate_left; (focus (intro wS hS; unfold SnapS at hS; go_split_ands; go_simp; first | done | with_reducible rfl)); (simp only [Act.put, List.setIfInBounds_toArray, List.set_cons_zero, List.set_cons_succ])
      refine treeS_one rfl rfl ?_
      go_wp2_with fail
      refine (HFalls _ hD).out.mono ?_
      rintro e w4 ⟨rfl, rfl⟩
      go_wp2_with fail
      refine Thn.mk ⟨hD.snapS, ?_⟩
      refine treeS_one rfl rfl ?_
      have hlen := DepAt.len_calls (ty := 3) hD
      go_wp2_with fail
      refine Thn.mk ⟨hD.snapS, ?_⟩
      clear hlen
      refine treeS_one rfl rfl ?_
      go_wp2_with fail
      refine (HBrk _ hD).out.mono ?_
      rintro e w6 ⟨rfl, rfl⟩
      go_wp2_with fail
      refine Thn.mk ⟨hD.snapS, ?_⟩
      refine treeS_one rfl rfl ?_
      go_wp2_with fail
      refine (HCnt _ hD).out.mono ?_
      rintro e w7 ⟨a, b, c, d, e5, rfl, hc5, -, hg, f7⟩
      replace hD := hD.upd_win hg f7
      replace G := G.trans (Only.inS (a := 8) (f := f7))
      replace hq0 := hq0.fr (Only.inS (i := i) (a := 8) (f := f7)) (fun e => Nat.lt_irrefl _ (hold.out _ e))
      replace hp := hp.fr (Only.inS (i := i) (a := 8) (f := f7)) (fun e => by have := hold.out _ e; omega)
      clear hg f7
      go_wp2_with fail
      refine Thn.mk ⟨hD.snapS, ?_⟩
      (refine treeS_take (v := ?_) rfl rfl ?_ ?_); rotate_left; (focus (intro wS hS; unfold SnapS at hS; go_split_ands; go_simp; first | done | with_reducible rfl)); (simp only [Act.put, List.setIfInBounds_toArray, List.set_cons_zero, List.set_cons_succ])
      have p0 := (hp.cell 0).trans (show _ = some (.int .i64 0) from rfl)
      have p1 := (hp.cell 1).trans (show _ = some (.int .i64 0) from rfl)
      have p2 := (hp.cell 2).trans (show _ = some (.int .i64 0) from rfl)
      have p3 := (hp.cell 3).trans (show _ = some (.int .i64 0) from rfl)
      have p4 := (hp.cell 4).trans (show _ = some (.int .i64 0) from rfl)
      have p5 := (hp.cell 5).trans (show _ = some (.int .u64 0) from rfl)
      have p6 := (hp.cell 6).trans (show _ = some (.int .u64 0) from rfl)
      have p7 := (hp.cell 7).trans (show _ = some (.int .u64 0) from rfl)
      have p8 := (hp.cell 8).trans (show _ = some (.int .u64 0) from rfl)
      have p9 := (hp.cell 9).trans (show _ = some (.int .u64 0) from rfl)
      have p10 := (hp.cell 10).trans (show _ = some (.int .u64 0) from rfl)
      have p11 := (hp.cell 11).trans (show _ = some (.int .u64 0) from rfl)
      have z0 := hp.free 0
      have z1 := hp.free 1
      have z2 := hp.free 2
      have z3 := hp.free 3
      have z4 := hp.free 4
      have z5 := hp.free 5
      have z6 := hp.free 6
      have z7 := hp.free 7
      have z8 := hp.free 8
      have z9 := hp.free 9
      have z10 := hp.free 10
      have z11 := hp.free 11
      obtain ⟨hpV, fp⟩ := snap_put (n0 := D.bulk.set.held.length) (n1 := D.bulk.wait.q.length) (n2 := D.falls.held.length) (n3 := D.calls.length) (n4 := D.brk.state) (a := a) (b := b) (c := c) (d := d) (e5 := e5) hp
      refine treeS_last rfl ?_
      go_wp2_with fail
      generalize ((((((((((((w7.setCell ⟨p, 0, none⟩ (.int .i64 D.bulk.set.held.length)).setCell ⟨p, 1, none⟩ (.int .i64 D.bulk.wait.q.length)).setCell ⟨p, 2, none⟩ (.int .i64 D.falls.held.length)).setCell ⟨p, 3, none⟩ (.int .i64 D.calls.length)).setCell ⟨p, 4, none⟩ (.int .i64 D.brk.state)).setCell ⟨p, 5, none⟩ (.int .u64 a)).setCell ⟨p, 6, none⟩ (.int .u64 b)).setCell ⟨p, 7, none⟩ (.int .u64 c)).setCell ⟨p, 8, none⟩ (.int .u64 d)).setCell ⟨p, 9, none⟩ (.int .u64 e5)).setCell ⟨p, 10, none⟩ (.int .u64 0)).setCell ⟨p, 11, none⟩ (.int .u64 0)) = wL at *
      have hpS : ∀ k, i.S k → ¬ k = p := fun k hk e => by have := hold.out _ hk; omega
      exact ⟨rfl, _, _, _, _, _, _, _, _, _, _, _, _, _, _, _, _, _, _, _, _, _, _, _, _, _, _, _, _, _, _, _, _, _, p, _, _, _, _, _, _, _, _, _, _, rfl, hpV, by omega, by omega, hq0.fr fp (fun e => by unfold Only at e; omega), rfl, hc5, hD.fr fp hpS (fun b _ e => by unfold Only at e; subst e; exact .inr (.inr (by simp only; omega))), G.step fp (fun k hk e => by unfold Only at e; omega)⟩
  · go_wp2_with fail
    obtain ⟨p, hpe⟩ : ∃ p, p = wA.heap.size := ⟨_, rfl⟩
    have hp := Blk.new wA (.cells #[.int .i64 0, .int .i64 0, .int .i64 0, .int .i64 0, .int .i64 0, .int .u64 0, .int .u64 0, .int .u64 0, .int .u64 0, .int .u64 0, .int .u64 0, .int .u64 0] 58)
    rw [← hpe] at hp ⊢
    have hpge : w.heap.size + 1 ≤ p := by have := hq0.lt; omega
    replace hD := hD.nil ((Fr.refl Nil _).alloc (.cells #[.int .i64 0, .int .i64 0, .int .i64 0, .int .i64 0, .int .i64 0, .int .u64 0, .int .u64 0, .int .u64 0, .int .u64 0, .int .u64 0, .int .u64 0, .int .u64 0] 58))
    replace G := G.alloc (.cells #[.int .i64 0, .int .i64 0, .int .i64 0, .int .i64 0, .int .i64 0, .int .u64 0, .int .u64 0, .int .u64 0, .int .u64 0, .int .u64 0, .int .u64 0, .int .u64 0] 58)
    replace hq0 := hq0.alloc (.cells #[.int .i64 0, .int .i64 0, .int .i64 0, .int .i64 0, .int .i64 0, .int .u64 0, .int .u64 0, .int .u64 0, .int .u64 0, .int .u64 0, .int .u64 0, .int .u64 0] 58)
    clear hpe
    generalize wA.alloc (.cells #[.int .i64 0, .int .i64 0, .int .i64 0, .int .i64 0, .int .i64 0, .int .u64 0, .int .u64 0, .int .u64 0, .int .u64 0, .int .u64 0, .int .u64 0, .int .u64 0] 58) = w1 at *
    refine Thn.mk ⟨hD.snapS, ?_⟩
    refine treeS_one rfl rfl ?_
    go_wp2_with fail
    refine (HBusy _ hD).out.mono ?_
    rintro e w2 ⟨rfl, rfl⟩
    go_wp2_with fail
    refine Thn.mk ⟨hD.snapS, ?_⟩
    refine treeS_one rfl rfl ?_
    go_wp2_with fail
    refine (HWait _ hD).out.mono ?_
    rintro e w3 ⟨f3, s, rfl, hs⟩
    obtain ⟨sA, sc, rfl⟩ := own_shape hs
    replace hD := hD.nil f3
    replace G := G.trans (f3.mono (fun _ _ e => e.elim))
    replace hq0 := hq0.fr f3 (fun x => x)
    replace hp := hp.fr f3 (fun x => x)
    clear f3 hs
    go_wp2_with fail
    refine Thn.mk ⟨hD.snapS, ?_⟩
    (refine treeS_take (v := ?_) rfl rfl ?_ ?_); rotate_left; (focus (intro wS hS; unfold SnapS at hS; go_split_ands; go_simp; first | done | with_reducible rfl)); (simp only [Act.put, List.setIfInBounds_toArray, List.set_cons_zero, List.set_cons_succ])
    refine treeS_one rfl rfl ?_
    go_wp2_with fail
    refine (HFalls _ hD).out.mono ?_
    rintro e w4 ⟨rfl, rfl⟩
    go_wp2_with fail
    refine Thn.mk ⟨hD.snapS, ?_⟩
    refine treeS_one rfl rfl ?_
    have hlen := DepAt.len_calls (ty := 3) hD
    go_wp2_with fail
    refine Thn.mk ⟨hD.snapS, ?_⟩
    clear hlen
    refine treeS_one rfl rfl ?_
    go_wp2_with fail
    refine (HBrk _ hD).out.mono ?_
    rintro e w6 ⟨rfl, rfl⟩
    go_wp2_with fail
    refine Thn.mk ⟨hD.snapS, ?_⟩
    refine treeS_one rfl rfl ?_
    go_wp2_with fail
    refine (HCnt _ hD).out.mono ?_
    rintro e w7 ⟨a, b, c, d, e5, rfl, hc5, -, hg, f7⟩
    replace hD := hD.upd_win hg f7
    replace G := G.trans (Only.inS (a := 8) (f := f7))
    replace hq0 := hq0.fr (Only.inS (i := i) (a := 8) (f := f7)) (fun e => Nat.lt_irrefl _ (hold.out _ e))
    replace hp := hp.fr (Only.inS (i := i) (a := 8) (f := f7)) (fun e => by have := hold.out _ e; omega)
    clear hg f7
    go_wp2_with fail
    refine Thn.mk ⟨hD.snapS, ?_⟩
    (refine treeS_take (v := ?_) rfl rfl ?_ ?_); rotate_left; (focus (intro wS hS; unfold SnapS at hS; go_split_ands; go_simp; first | done | with_reducible rfl)); (simp only [Act.put, List.setIfInBounds_toArray, List.set_cons_zero, List.set_cons_succ])
    have p0 := (hp.cell 0).trans (show _ = some (.int .i64 0) from rfl)
    have p1 := (hp.cell 1).trans (show _ = some (.int .i64 0) from rfl)
    have p2 := (hp.cell 2).trans (show _ = some (.int .i64 0) from rfl)
    have p3 := (hp.cell 3).trans (show _ = some (.int .i64 0) from rfl)
    have p4 := (hp.cell 4).trans (show _ = some (.int .i64 0) from rfl)
    have p5 := (hp.cell 5).trans (show _ = some (.int .u64 0) from rfl)
    have p6 := (hp.cell 6).trans (show _ = some (.int .u64 0) from rfl)
    have p7 := (hp.cell 7).trans (show _ = some (.int .u64 0) from rfl)
    have p8 := (hp.cell 8).trans (show _ = some (.int .u64 0) from rfl)
    have p9 := (hp.cell 9).trans (show _ = some (.int .u64 0) from rfl)
    have p10 := (hp.cell 10).trans (show _ = some (.int .u64 0) from rfl)
    have p11 := (hp.cell 11).trans (show _ = some (.int .u64 0) from rfl)
    have z0 := hp.free 0
    have z1 := hp.free 1
    have z2 := hp.free 2
    have z3 := hp.free 3
    have z4 := hp.free 4
    have z5 := hp.free 5
    have z6 := hp.free 6
    have z7 := hp.free 7
    have z8 := hp.free 8
    have z9 := hp.free 9
    have z10 := hp.free 10
    have z11 := hp.free 11
    obtain ⟨hpV, fp⟩ := snap_put (n0 := D.bulk.set.held.length) (n1 := D.bulk.wait.q.length) (n2 := D.falls.held.length) (n3 := D.calls.length) (n4 := D.brk.state) (a := a) (b := b) (c := c) (d := d) (e5 := e5) hp
    refine treeS_last rfl ?_
    go_wp2_with fail
    generalize ((((((((((((w7.setCell ⟨p, 0, none⟩ (.int .i64 D.bulk.set.held.length)).setCell ⟨p, 1, none⟩ (.int .i64 D.bulk.wait.q.length)).setCell ⟨p, 2, none⟩ (.int .i64 D.falls.held.length)).setCell ⟨p, 3, none⟩ (.int .i64 D.calls.length)).setCell ⟨p, 4, none⟩ (.int .i64 D.brk.state)).setCell ⟨p, 5, none⟩ (.int .u64 a)).setCell ⟨p, 6, none⟩ (.int .u64 b)).setCell ⟨p, 7, none⟩ (.int .u64 c)).setCell ⟨p, 8, none⟩ (.int .u64 d)).setCell ⟨p, 9, none⟩ (.int .u64 e5)).setCell ⟨p, 10, none⟩ (.int .u64 0)).setCell ⟨p, 11, none⟩ (.int .u64 0)) = wL at *
    have hpS : ∀ k, i.S k → ¬ k = p := fun k hk e => by have := hold.out _ hk; omega
    exact ⟨rfl, _, _, _, _, _, _, _, _, _, _, _, _, _, _, _, _, _, _, _, _, _, _, _, _, _, _, _, _, _, _, _, _, _, p, _, _, _, _, _, _, _, _, _, _, rfl, hpV, by omega, by omega, hq0.fr fp (fun e => by unfold Only at e; omega), rfl, hc5, hD.fr fp hpS (fun b _ e => by unfold Only at e; subst e; exact .inr (.inr (by simp only; omega))), G.step fp (fun k hk e => by unfold Only at e; omega)⟩

end Go.Proofs.Ythnaieeaominjaa
