/-
  Package dep: runs.
-/
import Derived.Test.YthnaieeaominjaaCount
import Derived.Test.YthnaieeaominjaaApp
namespace Go.Proofs.Ythnaieeaominjaa
open Go.RowKit
set_option linter.unusedVariables false
set_option linter.unusedSimpArgs false

def noCl : Cl := ⟨⟨⟨none, 0, 0⟩, ⟨none, 0, 0⟩, 0, 0, 0, 0⟩, [], []⟩
/-- A call by its id; none: the zero one. -/
def Dp.find (D : Dp) (id : Int) : Cl := (cget id D.calls).getD noCl
def Cl.with_ (c : Cl) (r : CallR) : Cl := { c with r := r }
def Dp.run1 (D : Dp) (id : Int) : Dp := D.keep ((D.find id).with_ (D.find id).r.run.1)
def Dp.runs (D : Dp) (ids : List Int) : Dp := ids.foldl Dp.run1 D
theorem runs_snoc (D : Dp) (ids : List Int) (k : Nat) (h : k < ids.length) : D.runs (ids.take (k + 1)) = (D.runs (ids.take k)).run1 ids[k] := by
  unfold Dp.runs; rw [List.take_succ_eq_append_getElem h, List.foldl_append]; rfl

theorem noCl_at (w : World) (M : Nat → Prop) : noCl.At w M := ⟨⟨rfl, Nat.le_refl _, by simp [noCl], rfl, .inl rfl⟩, ⟨rfl, Nat.le_refl _, by simp [noCl], rfl, .inl rfl⟩, by simp [noCl], by simp [noCl, U64]⟩
theorem DepAt.find_at {w : World} {i : DepIds} {D : Dp} (h : DepAt w i D) (id : Int) : (D.find id).At w i.M := by
  unfold Dp.find
  cases hc : cget id D.calls with
  | none => exact noCl_at w _
  | some c => obtain ⟨p, hp, rfl, -⟩ := cget_mem hc; exact h.calls.2 p hp
theorem DepAt.look {w : World} {i : DepIds} {D : Dp} (h : DepAt w i D) (id : Int) : (Instr.lookup 98 (.map (some i.calls)) (.int .i64 id) false).run Try.prog w = .ok (D.find id).r.val w := by
  rw [run_lookup Try.underlying98 (z := noCl.r.val) (fun w => by kernel_rfl) (key_int Try.underlying3 id) h.calls.1 (kv_dom _), get_kv]
  unfold Dp.find
  cases cget id D.calls <;> simp
/-- The same call, farther on. -/
structure CallR.Kin (r c : CallR) : Prop where
  args : r.args = c.args
  members : r.members = c.members
  step : c.step ≤ r.step
  start : r.start = c.start
theorem CallR.Kin.trans {a b c : CallR} (h : a.Kin b) (g : b.Kin c) : a.Kin c := ⟨h.args.trans g.args, h.members.trans g.members, Int.le_trans g.step h.step, h.start.trans g.start⟩
theorem CallR.Kin.refl (c : CallR) : c.Kin c := ⟨rfl, rfl, Int.le_refl _, rfl⟩
theorem run_args (c : CallR) : c.run.1.Kin c := by unfold CallR.run; split <;> exact ⟨rfl, rfl, Int.le_refl _, rfl⟩
theorem fin_args (c : CallR) : c.fin.1.Kin c := by unfold CallR.fin; split <;> exact ⟨rfl, rfl, Int.le_refl _, rfl⟩
theorem Cl.At.with_ {w : World} {M : Nat → Prop} {c : Cl} (h : c.At w M) {r : CallR} (hr : r.Kin c.r) : (c.with_ r).At w M := by
  have hs := h.step
  have ht := hr.step
  exact ⟨by unfold Cl.with_; simp only; rw [hr.args]; exact h.args, by unfold Cl.with_; simp only; rw [hr.members]; exact h.members, by unfold Cl.with_; simp only; omega, by unfold Cl.with_; simp only; rw [hr.start]; exact h.start⟩

set_option maxRecDepth 100000 in
set_option maxHeartbeats 1600000 in
theorem deed_runs (x : Nat) (i : DepIds) (E : Deed) (D : Dp) (s : Sl) (ids : List Int) (w : World) (h : XAt w x i E D) (hs : Rd w i.S s 1 ids.length (ints ids)) :
    Calls Try.prog 43 #[.pointer (some ⟨x, 0, none⟩), s.val] w (SPost w x i (.tuple #[]) E (D.runs ids)) := by
  obtain ⟨hl, hcap, hmax, hlen, hc⟩ := hs
  obtain ⟨sa, sn, sc⟩ := s
  simp only at hl hcap hc
  subst hl
  unfold Sl.val
  simp only
  have H0 := Lib.hid h
  clear h hlen
  go_enter Try.func43, Try.ntmps43
  go_wp2_with fail
  go_loopw [10] (fun t wr => ∃ k : Nat, k ≤ ids.length ∧ t = .int .i64 k ∧ XAt wr x i E (D.runs (ids.take k)) ∧ Fr i.S w wr) (fun t _ => ids.length - (intOf t).toNat)
  case atStart => exact ⟨0, Nat.zero_le _, rfl, by simpa [Dp.runs] using H0.out, Fr.refl _ _⟩
  case round =>
    obtain ⟨k, hk, rfl, hx, hfr⟩ := hrel
    by_cases hlt : k < ids.length
    · obtain ⟨bs, os, rfl, hnS, hbs, hcell⟩ := hc.resolve_left (by omega)
      have ck := (cell_fr (o := os + k) hfr hbs hnS).trans (hcell k _ (ints_get ids k hlt))
      have HS := Lib.hid (runs_snoc D ids k hlt)
      generalize D.runs (ids.take k) = Dk at *
      generalize ids[k] = id at *
      have hlook := hx.dep.look id
      have HF := Lib.hid (hx.dep.find_at id)
      have HR := Lib.hid (show Dk.run1 id = Dk.keep ((Dk.find id).with_ (Dk.find id).r.run.1) from rfl)
      generalize Dk.find id = c at *
      have HRun := fun W => Lib.hid (call_run c.r W)
      have hra := run_args c.r
      have HF1 := Lib.hid (HF.out.with_ hra)
      generalize c.r.run.1 = r1 at *
      generalize c.r.run.2 = r2 at *
      have q := hx.baseS
      unfold BaseS at q
      obtain ⟨x0, -, -, -, -, -, -, -, -, -, -, -, -, -, -, -, -, -, -, -, -, -, -, d21, -⟩ := q
      have HX := Lib.hid hx
      clear hcell hra hx
      obtain ⟨⟨ra, rn, rc⟩, ⟨ma, mn, mc⟩, st, sp, ca, t⟩ := r1
      go_wp2_with fail
      refine (HRun _).out.mono ?_
      rintro e w1 ⟨rfl, hf1⟩
      unfold CallR.val Sl.val
      simp only
      have hxl := HX.out.deed.lt
      have hsz := hf1.size
      clear hlook ck x0 d21 HRun
      go_wp2_with fail
      have hcs := callS (c := ⟨⟨ra, rn, rc⟩, ⟨ma, mn, mc⟩, st, sp, ca, t⟩) (Blk.new w1 (.cells #[.slice ra rn rc, .slice ma mn mc, .int .i64 st, .int .i64 sp, .int .i64 ca, .int .u64 t] 116))
      have f2 : Fr Nil wr (w1.alloc (.cells #[.slice ra rn rc, .slice ma mn mc, .int .i64 st, .int .i64 sp, .int .i64 ca, .int .u64 t] 116)) := hf1.alloc _
      generalize w1.alloc (.cells #[.slice ra rn rc, .slice ma mn mc, .int .i64 st, .int .i64 sp, .int .i64 ca, .int .u64 t] 116) = w2 at *
      have h2 := HX.out.nil f2
      have hs2 : BaseS x i E.now Dk.cf Dk.probe w2 := h2.baseS
      have HK := dep_keep i Dk _ (w2.drewN 1) (h2.drewN 1).dep (HF1.out.fr (f2.drewN 1) (fun _ _ e => e.elim))
      unfold Cl.with_ CallR.val Sl.val at HK
      simp only at HK
      have HK2 := Lib.hid HK
      have H2 := Lib.hid h2
      have F2 := Lib.hid (hfr.trans (f2.mono (fun _ _ e => e.elim)))
      clear HK h2 f2 hf1 hsz
      refine region_ord (BaseC x i E.now Dk.cf Dk.probe w1.heap.size ⟨⟨ra, rn, rc⟩, ⟨ma, mn, mc⟩, st, sp, ca, t⟩) [(true, 0), (true, 1), (true, 2), (true, 3), (true, 4), (false, 5)] (by kernel_rfl) (by kernel_rfl) (fun _ _ d _ _ h => by cases d <;> exact h) ⟨hs2, hcs⟩ ?_
      simp only [opsAt, List.filterMap_cons, List.filterMap_nil, List.getElem?_toArray, List.getElem?_cons_zero, List.getElem?_cons_succ, Option.map_some]
      repeat ((refine seqS_take (v := ?_) rfl ?_ ?_); rotate_left; (focus (intro wS hS; unfold BaseC BaseS CallS at hS; go_split_ands; go_simp; first | done | with_reducible rfl)); (simp only [Act.put, List.setIfInBounds_toArray, List.set_cons_zero, List.set_cons_succ]))
      refine seqS_last ?_
      unfold Sl.val
      simp only
      go_wp2_with fail
      refine HK2.out.mono ?_
      rintro e w3 ⟨rfl, hd3, hf3⟩
      have h3 : XAt w3 x i E (D.runs (ids.take (k + 1))) := by
        rw [HS.out, HR.out]
        exact H2.out.dep_on hd3 (((Fr.refl _ _).drewN 1).trans hf3)
      have f3 : Fr i.S w w3 := F2.out.trans (((Fr.refl _ _).drewN 1).trans hf3)
      clear hd3 hf3 H2 F2 HK2 hs2 hcs HF1 HR HS HF HX hc
      go_wp2_with fail
      go_roundw
      case rel => first | exact ⟨k + 1, by omega, by go_num, h3, f3⟩ | ((repeat apply Exists.intro); exact ⟨⟨k + 1, by omega, by go_num, h3, f3⟩, rfl⟩)
      case measure => simp [intOf]; omega
    · obtain rfl : k = ids.length := by omega
      rw [List.take_length] at hx
      have HX := Lib.hid hx
      clear hx
      go_wp2_with fail
      go_end0
      exact ⟨rfl, HX.out, hfr⟩

end Go.Proofs.Ythnaieeaominjaa
