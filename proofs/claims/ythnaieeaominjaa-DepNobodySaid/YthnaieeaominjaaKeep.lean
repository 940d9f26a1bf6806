/-
  Package dep: holds, keep.
-/
import Derived.Test.YthnaieeaominjaaDep
namespace Go.Proofs.Ythnaieeaominjaa
open Go.RowKit
set_option linter.unusedVariables false
set_option linter.unusedSimpArgs false

/-- Does a call hold a fallback of so many, or a worker? -/
def Dp.falling (D : Dp) (id : Int) (n : Nat) : Bool := (List.range n).any fun k => D.falls.has (id, (k : Int) + 1)
def Dp.holds (D : Dp) (id : Int) : Bool := D.falling id D.cf.chain.toNat || D.bulk.runs id

theorem falling_true {D : Dp} {id : Int} {n k : Nat} (hk : k < n) (h : D.falls.has (id, (k : Int) + 1) = true) : D.falling id n = true := by
  simp only [Dp.falling, List.any_eq_true]
  exact ⟨k, List.mem_range.2 hk, h⟩
theorem falling_false {D : Dp} {id : Int} {n : Nat} (h : ∀ k, k < n → D.falls.has (id, (k : Int) + 1) = false) : D.falling id n = false := by
  simp only [Dp.falling, List.any_eq_false]
  intro k hk
  rw [h k (List.mem_range.1 hk)]; simp

set_option maxRecDepth 100000 in
set_option maxHeartbeats 800000 in
theorem dep_holds (i : DepIds) (D : Dp) (id : Int) (w : World) (h : DepAt w i D) :
    Calls Try.prog 78 #[.pointer (some ⟨i.d, 0, none⟩), .int .i64 id] w fun e w' => e = .returned (.bool (D.holds id)) ∧ Fr Nil w w' := by
  have hch := h.chain
  obtain ⟨n, hn⟩ : ∃ n : Nat, D.cf.chain = n := ⟨D.cf.chain.toNat, by omega⟩
  have HD := Lib.hid (show D.holds id = (D.falling id n || D.bulk.runs id) by unfold Dp.holds; rw [hn]; simp)
  have HR := fun W hW => Lib.hid (bulk_runs i.bulk D.bulk id W hW)
  have HF := fun W x hW => Lib.hid (permit_holds i.fs i.fm D.falls x W hW)
  have H := Lib.hid h
  have c1 := h.cell 1
  have c7 := h.cell 7
  have c18 := h.cell 18
  simp [DepIds.cells] at c1 c7 c18
  rw [hn] at c7 hch
  have hlt := h.blk.lt
  have CC : ∀ W, Fr Nil w W → W.cell? ⟨i.d, 1, none⟩ = some (.pointer (some ⟨i.bulk.b, 0, none⟩)) ∧ W.cell? ⟨i.d, 18, none⟩ = some (.pointer (some ⟨i.fs, 0, none⟩)) := fun W f => ⟨by rw [cell_fr f hlt (fun x => x)]; exact c1, by rw [cell_fr f hlt (fun x => x)]; exact c18⟩
  have HCC := Lib.hid CC
  clear h CC c1 c18
  have hn3 : n ≤ 3 := by omega
  rw [HD.out]
  generalize D.bulk.runs id = r at *
  clear hn hch
  go_enter Try.func78, Try.ntmps78
  go_wp2_with fail
  go_loopw [11] (fun t wr => ∃ k : Nat, k ≤ n ∧ t = .int .i64 k ∧ Hid (∀ j, j < k → D.falls.has (id, (j : Int) + 1) = false) ∧ Fr Nil w wr) (fun t _ => n - (intOf t).toNat)
  case atStart => exact ⟨0, Nat.zero_le _, rfl, Lib.hid (fun j hj => absurd hj (Nat.not_lt_zero _)), Fr.refl _ _⟩
  case round =>
    obtain ⟨k, hk, rfl, hno, hfr⟩ := hrel
    obtain ⟨c1, c18⟩ := HCC.out wr hfr
    have HX := Lib.hid (H.out.nil hfr)
    by_cases hlt2 : k < n
    · have HQ := HF wr (id, (k : Int) + 1) HX.out.falls
      unfold hkey at HQ
      simp only at HQ
      cases hh : D.falls.has (id, (k : Int) + 1)
      · rw [hh] at HQ
        have hno2 : Hid (∀ j, j < k + 1 → D.falls.has (id, (j : Int) + 1) = false) := Lib.hid (fun j hj => by
          rcases Nat.lt_or_ge j k with h | h
          · exact hno.out j h
          · obtain rfl : j = k := by omega
            exact hh)
        clear hh hno
        go_wp2_with fail
        refine HQ.out.mono ?_
        rintro e w2 ⟨rfl, hf2⟩
        have hfr2 := hfr.trans hf2
        go_wp2_with fail
        go_roundw
        case rel => first | exact ⟨k + 1, by omega, by go_num, hno2, hfr2⟩ | ((repeat apply Exists.intro); exact ⟨⟨k + 1, by omega, by go_num, hno2, hfr2⟩, rfl⟩)
        case measure => simp [intOf]; omega
      · rw [hh] at HQ
        have HT := Lib.hid (falling_true hlt2 hh)
        clear hh
        go_wp2_with fail
        refine HQ.out.mono ?_
        rintro e w2 ⟨rfl, hf2⟩
        have hfr2 := hfr.trans hf2
        go_wp2_with fail
        go_ret
        exact ⟨ret_bool (by rw [HT.out]; rfl), hfr2⟩
    · obtain rfl : k = n := by omega
      have HT := Lib.hid (falling_false hno.out)
      go_wp2_with fail
      refine (HR wr HX.out.bulk).out.mono ?_
      rintro e w2 ⟨rfl, hf2⟩
      have hfr2 := hfr.trans hf2
      go_wp2_with fail
      go_ret
      exact ⟨ret_bool (by rw [HT.out]; rfl), hfr2⟩

def DepPost (w : World) (i : DepIds) (v : Value) (D : Dp) (e : Ending) (w' : World) : Prop := e = .returned v ∧ DepAt w' i D ∧ Fr i.S w w'
def Dp.put (D : Dp) (c : Cl) : Dp := { D with calls := cset (leadOf c.ml) c D.calls }
def Dp.keep (D : Dp) (c : Cl) : Dp := if c.r.state = 4 ∧ D.holds (leadOf c.ml) = false then { D with calls := cdel (leadOf c.ml) (D.put c).calls } else D.put c

theorem Fr.only {i : DepIds} {w w' : World} {a : Nat} (ha : a < 11 := by decide) (f : Fr (Only (i.nth a)) w w') : Fr i.S w w' := f.mono fun k _ e => by cases e; exact i.mem a ha

/-- What a call's being put comes to. -/
theorem DepAt.put_run {w : World} {i : DepIds} {D : Dp} {c : Cl} (h : DepAt w i D) (hc : c.At w i.M) (id : Int) (hid : leadOf c.ml = id) :
    ∃ o, ∀ n, (Instr.mapUpdate 98 (.map (some i.calls)) (.int .i64 id) c.r.val).run Try.prog (w.drewN n) = .ok () (World.setObj (w.drewN n) i.calls o) ∧ DepAt (World.setObj (w.drewN n) i.calls o) i (D.put c) ∧
      Fr (Only i.calls) w (World.setObj (w.drewN n) i.calls o) := by
  obtain ⟨o, ho⟩ := run_update (val := c.r.val) Try.underlying98 (key_int Try.underlying3 id) h.calls.1 (kv_dom _)
  refine ⟨o, fun n => ?_⟩
  obtain ⟨h1, h2⟩ := ho (w.drewN n) rfl
  rw [set_kv] at h2
  have f : Fr (Only i.calls) w (World.setObj (w.drewN n) i.calls o) := ((Fr.refl _ w).drewN n).trans setObj_fr
  have := h.upd_calls h2 (fun p hp => by
    rcases mem_cset hp with rfl | hp
    · exact hc
    · exact h.calls.2 p hp) f
  refine ⟨h1, ?_, f⟩
  rw [Dp.put, hid]
  exact this
theorem DepAt.cut_run {w : World} {i : DepIds} {D : Dp} (h : DepAt w i D) (id : Int) (ty : TypeId) :
    ∃ o, (Builtin.delete_ #[98, 3] ty #[.map (some i.calls), .int .i64 id]).run Try.prog w = .ok (.tuple #[]) (World.setObj w i.calls o) ∧ DepAt (World.setObj w i.calls o) i { D with calls := cdel id D.calls } ∧
      Fr (Only i.calls) w (World.setObj w i.calls o) := by
  obtain ⟨o, ho⟩ := run_delete (ty := ty) (t2 := 3) Try.underlying98 (key_int Try.underlying3 id) h.calls.1 (kv_dom _)
  obtain ⟨h1, h2⟩ := ho w rfl
  rw [del_kv] at h2
  have f : Fr (Only i.calls) w (World.setObj w i.calls o) := setObj_fr
  exact ⟨o, h1, h.upd_calls h2 (fun p hp => h.calls.2 p (mem_cdel hp)) f, f⟩

set_option maxRecDepth 100000 in
set_option maxHeartbeats 1600000 in
theorem dep_keep (i : DepIds) (D : Dp) (c : Cl) (w : World) (h : DepAt w i D) (hc : c.At w i.M) :
    Calls Try.prog 45 #[.pointer (some ⟨i.d, 0, none⟩), c.r.val] w (DepPost w i (.tuple #[]) (D.keep c)) := by
  obtain ⟨⟨⟨aa, an, ac⟩, ⟨ma, mn, mc⟩, st, sp, ca, t⟩, al, ml⟩ := c
  have hL : ∀ W, Fr Nil w W → Hid (Calls Try.prog 38 #[.agg #[.slice aa an ac, .slice ma mn mc]] W fun e w' => e = .returned (.int .i64 (leadOf ml)) ∧ Fr Nil W w') := fun W f =>
    Lib.hid (batch_lead i.M ⟨aa, an, ac⟩ ⟨ma, mn, mc⟩ ml W (hc.members.fr f (fun _ _ x => x.elim)))
  have HK := Lib.hid (show D.keep ⟨⟨⟨aa, an, ac⟩, ⟨ma, mn, mc⟩, st, sp, ca, t⟩, al, ml⟩ = if st = 4 ∧ D.holds (leadOf ml) = false then { D with calls := cdel (leadOf ml) (D.put ⟨⟨⟨aa, an, ac⟩, ⟨ma, mn, mc⟩, st, sp, ca, t⟩, al, ml⟩).calls } else D.put ⟨⟨⟨aa, an, ac⟩, ⟨ma, mn, mc⟩, st, sp, ca, t⟩, al, ml⟩ from rfl)
  generalize hid : leadOf ml = id at *
  have HId := Lib.hid hid
  have H := Lib.hid h
  have HC := Lib.hid hc
  clear h hc hid
  rw [HK.out]
  unfold CallR.val Sl.val
  simp only
  generalize hDD : (if st = 4 ∧ D.holds id = false then _ else _ : Dp) = DD
  have HDD := Lib.hid hDD
  clear hDD
  go_enter Try.func45, Try.ntmps45
  go_wp2_with fail
  refine (hL _ ((Fr.refl _ _).alloc _)).out.mono ?_
  rintro e w1 ⟨rfl, hf1⟩
  have hb1 := (Blk.new w (.cells #[.slice aa an ac, .slice ma mn mc, .int .i64 st, .int .i64 sp, .int .i64 ca, .int .u64 t] 116)).fr hf1 (fun x => x)
  have g1 : Fr Nil w w1 := ((Fr.refl _ _).alloc _).trans hf1
  have h1 := H.out.nil g1
  have hc1 : Cl.At w1 i.M ⟨⟨⟨aa, an, ac⟩, ⟨ma, mn, mc⟩, st, sp, ca, t⟩, al, ml⟩ := HC.out.fr g1 (fun _ _ x => x.elim)
  obtain ⟨o, ho⟩ := h1.put_run hc1 id HId.out
  have hrun := fun n => (ho n).1
  unfold CallR.val Sl.val at hrun
  simp only at hrun
  have HO := Lib.hid ho
  have d21 := h1.cell 21
  simp [DepIds.cells] at d21
  have p0 : w1.cell? ⟨w.heap.size, 0, none⟩ = some (.slice aa an ac) := by rw [hb1.cell]; rfl
  have p1 : w1.cell? ⟨w.heap.size, 1, none⟩ = some (.slice ma mn mc) := by rw [hb1.cell]; rfl
  have p2 : w1.cell? ⟨w.heap.size, 2, none⟩ = some (.int .i64 st) := by rw [hb1.cell]; rfl
  have p3 : w1.cell? ⟨w.heap.size, 3, none⟩ = some (.int .i64 sp) := by rw [hb1.cell]; rfl
  have p4 : w1.cell? ⟨w.heap.size, 4, none⟩ = some (.int .i64 ca) := by rw [hb1.cell]; rfl
  have p5 : w1.cell? ⟨w.heap.size, 5, none⟩ = some (.int .u64 t) := by rw [hb1.cell]; rfl
  clear ho h1 hc1 hf1
  go_wp2_with fail
  refine region_tail 6 (by kernel_rfl) (by kernel_rfl) ?_
  simp only [List.take_succ_cons, List.take_zero, List.drop_succ_cons, List.drop_zero, World.drewN_drewN]
  repeat still_step
  refine wpStill_nil ?_
  clear d21 p0 p1 p3 p4 p5
  have hS := HO.out 1
  have hb2 : Blk (World.setObj (w1.drewN 1) i.calls o) w.heap.size (.cells #[.slice aa an ac, .slice ma mn mc, .int .i64 st, .int .i64 sp, .int .i64 ca, .int .u64 t] 116 (0, 0)) :=
    hb1.fr hS.2.2 (fun e => by have := H.out.calls.1.lt; unfold Only at e; omega)
  have p2' : (World.setObj (w1.drewN 1) i.calls o).cell? ⟨w.heap.size, 2, none⟩ = some (.int .i64 st) := by rw [hb2.cell]; rfl
  have h2 := hS.2.1
  have g2 : Fr i.S w (World.setObj (w1.drewN 1) i.calls o) := (g1.mono (fun _ _ x => x.elim)).trans (Fr.only (a := 10) (f := hS.2.2))
  have hrun1 := hrun 1
  clear hS p2 hb2 hrun HO
  have hlt2 : w.heap.size < (World.setObj (w1.drewN 1) i.calls o).heap.size := by have := g2.size; have := World.block_lt_of_cell? _ _ p2'; exact this
  generalize World.setObj (w1.drewN 1) i.calls o = w2 at *
  clear hb1 g1 hL
  have HH := Lib.hid (dep_holds i _ id w2 h2)
  rw [show (D.put ⟨⟨⟨aa, an, ac⟩, ⟨ma, mn, mc⟩, st, sp, ca, t⟩, al, ml⟩).holds id = D.holds id from rfl] at HH
  have H2 := Lib.hid h2
  clear h2
  by_cases hst : (st == 4) = true
  · have hst4 : st = 4 := by simpa using hst
    cases hh : D.holds id
    · rw [hh] at HH
      have HDD2 := Lib.hid (show { D with calls := cdel id (D.put ⟨⟨⟨aa, an, ac⟩, ⟨ma, mn, mc⟩, st, sp, ca, t⟩, al, ml⟩).calls } = DD by rw [← HDD.out, if_pos ⟨hst4, hh⟩])
      clear hst4 hh HDD
      go_wp2_with fail
      refine HH.out.mono ?_
      rintro e w3 ⟨rfl, hf3⟩
      have h3 := H2.out.nil hf3
      obtain ⟨o2, hd, h4, f4⟩ := h3.cut_run id 0
      have d21 := h3.cell 21
      simp [DepIds.cells] at d21
      have H4 := Lib.hid h4
      have F4 := Lib.hid f4
      clear h3 h4 f4 p2'
      go_wp2_with fail
      go_end0
      refine ⟨rfl, ?_, (g2.trans (hf3.mono (fun _ _ x => x.elim))).trans (Fr.only (a := 10) (f := F4.out))⟩
      rw [← HDD2.out]
      exact H4.out
    · rw [hh] at HH
      have HDD2 := Lib.hid (show D.put ⟨⟨⟨aa, an, ac⟩, ⟨ma, mn, mc⟩, st, sp, ca, t⟩, al, ml⟩ = DD by rw [← HDD.out, if_neg (by rw [hh]; simp)])
      clear hst4 hh HDD
      go_wp2_with fail
      refine HH.out.mono ?_
      rintro e w3 ⟨rfl, hf3⟩
      go_wp2_with fail
      go_end0
      refine ⟨rfl, ?_, g2.trans (hf3.mono (fun _ _ x => x.elim))⟩
      rw [← HDD2.out]
      exact H2.out.nil hf3
  · have hst4 : ¬ st = 4 := by simpa using hst
    have HDD2 := Lib.hid (show D.put ⟨⟨⟨aa, an, ac⟩, ⟨ma, mn, mc⟩, st, sp, ca, t⟩, al, ml⟩ = DD by rw [← HDD.out, if_neg (fun e => hst4 e.1)])
    clear hst4 HDD
    go_wp2_with fail
    go_end0
    refine ⟨rfl, ?_, g2⟩
    rw [← HDD2.out]
    exact H2.out

end Go.Proofs.Ythnaieeaominjaa
