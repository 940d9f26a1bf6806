/-
  Package bulk: who runs, and who waits.
-/
import Derived.Test.YthnaieeaominjaaPermit
import Derived.Test.YthnaieeaominjaaRing2
import Derived.Deep.RegionHeld3
namespace Go.Proofs.Ythnaieeaominjaa
open Go.RowKit
set_option linter.unusedVariables false
set_option linter.unusedSimpArgs false

/-- slices.Index, slices.Contains at ints. -/
def indexOf (l : List Int) (x : Int) : Int := match l.findIdx? (· == x) with | some i => i | none => -1

theorem find_none_of {l : List Int} {x : Int} (h : ∀ j, j < l.length → l.getD j 0 ≠ x) : l.findIdx? (· == x) = none := by
  rw [List.findIdx?_eq_none_iff]
  intro y hy
  obtain ⟨j, hj, rfl⟩ := List.getElem_of_mem hy
  have := h j hj
  simp only [List.getD_eq_getElem?_getD, List.getElem?_eq_getElem hj, Option.getD_some] at this
  simpa using this
theorem find_some_of {l : List Int} {x : Int} {k : Nat} (hk : k < l.length) (hx : l.getD k 0 = x) (h : ∀ j, j < k → l.getD j 0 ≠ x) : l.findIdx? (· == x) = some k := by
  rw [List.findIdx?_eq_some_iff_getElem]
  refine ⟨hk, ?_, fun j hj => ?_⟩
  · simp only [List.getD_eq_getElem?_getD, List.getElem?_eq_getElem hk, Option.getD_some] at hx
    simpa using hx
  · have := h j hj
    simp only [List.getD_eq_getElem?_getD, List.getElem?_eq_getElem (show j < l.length by omega), Option.getD_some] at this
    simpa using this

set_option maxHeartbeats 400000 in
theorem slices_index (M : Nat → Prop) (s : Sl) (l : List Int) (x : Int) (w : World) (h : Rd w M s 1 l.length (ints l)) :
    Calls Try.prog 103 #[s.val, .int .i64 x] w fun e w' => e = .returned (.int .i64 (indexOf l x)) ∧ w = w' := by
  obtain ⟨hl, hcap, hmax, hlen, hc⟩ := h
  obtain ⟨ma, mn, mc⟩ := s
  simp only at hl hcap hc
  subst hl
  unfold Sl.val
  simp only
  go_enter Try.func103, Try.ntmps103
  go_wp2_with fail
  go_loop [8] (fun i => ∃ k : Nat, k ≤ l.length ∧ i = .int .i64 k ∧ ∀ j, j < k → l.getD j 0 ≠ x) (fun i => l.length - (intOf i).toNat)
  case atStart => exact ⟨0, Nat.zero_le _, rfl, fun j hj => absurd hj (Nat.not_lt_zero _)⟩
  case round =>
    obtain ⟨k, hk, rfl, hno⟩ := hrel
    have HNo := Lib.hid hno
    clear hno
    by_cases hlt : k < l.length
    · obtain ⟨bm, om, rfl, -, hbm, hcell⟩ := hc.resolve_left (by omega)
      have c0 := hcell k _ (ints_get l k hlt)
      have hg : l.getD k 0 = l[k] := by simp [List.getD, hlt]
      generalize hv : l[k] = v at *
      have HG := Lib.hid hg
      clear hg hv hcell hc
      by_cases hx : (x == v) = true
      · have hxv : Hid (x = v) := Lib.hid (by simpa using hx)
        go_wp2_with fail
        go_ret
        refine ⟨ret_int ?_, rfl⟩
        have := find_some_of (x := x) hlt (by rw [HG.out, hxv.out]) HNo.out
        simp [indexOf, this]
      · have hx' : (x == v) = false := by simpa using hx
        have hxv := Lib.hid (show ¬ x = v by simpa using hx)
        clear hx
        go_wp2_with fail
        go_round
        case rel =>
          refine ⟨k + 1, by omega, by go_num, fun j hj => ?_⟩
          rcases Nat.lt_or_ge j k with h | h
          · exact HNo.out j h
          · obtain rfl : j = k := by omega
            rw [HG.out]; exact fun e => hxv.out e.symm
        case measure => simp [intOf]; omega
    · go_wp2_with fail
      go_ret
      obtain rfl : k = l.length := by omega
      exact ⟨ret_int (by simp [indexOf, find_none_of HNo.out]), rfl⟩

theorem index_nonneg (l : List Int) (x : Int) : decide (0 ≤ indexOf l x) = decide (x ∈ l) := by
  unfold indexOf
  cases h : l.findIdx? (· == x) with
  | none =>
    rw [List.findIdx?_eq_none_iff] at h
    have : ¬ x ∈ l := fun hx => by have := h x hx; simp at this
    simp [this]
  | some i =>
    obtain ⟨hi, hx, -⟩ := List.findIdx?_eq_some_iff_getElem.1 h
    have hx' : l[i] = x := by simpa using hx
    have : x ∈ l := hx' ▸ List.getElem_mem hi
    simp [this]

theorem slices_contains (M : Nat → Prop) (s : Sl) (l : List Int) (x : Int) (w : World) (h : Rd w M s 1 l.length (ints l)) :
    Calls Try.prog 95 #[s.val, .int .i64 x] w fun e w' => e = .returned (.bool (decide (x ∈ l))) ∧ w = w' := by
  have HI := Lib.hid (slices_index M s l x w h)
  rw [← index_nonneg]
  generalize indexOf l x = i at *
  unfold Sl.val at *
  go_enter Try.func95, Try.ntmps95
  go_wp2_with (go_at_call 103; (with_reducible refine HI.out.mono ?_); rintro e w' ⟨rfl, rfl⟩)
  go_ret
  exact ⟨rfl, rfl⟩

theorem bulk_own (id : Int) (w : World) : Calls Try.prog 76 #[.int .i64 id] w fun e w' => e = .returned (hkey (id, 0)) ∧ Fr Nil w w' := by
  go_enter Try.func76, Try.ntmps76
  go_wp2_with fail
  refine bodyPost_ret (v := hkey (id, 0)) (by simp [results, Try.results76, go_sem, hkey]) rfl ⟨rfl, ?_⟩
  exact (Fr.refl _ _).alloc _

structure Bulk where
  set : PSet
  wait : Ring
deriving DecidableEq

structure BulkIds where
  b : Nat
  s : Nat
  m : Nat
  r : Nat

def BulkIds.in_ (i : BulkIds) : Nat → Prop := fun k => k = i.m ∨ k = i.r

/-- A bulk in block b: its set in s (its map in m), its queue in r. -/
def BulkAt (w : World) (i : BulkIds) (x : Bulk) : Prop :=
  Blk w i.b (.cells #[.pointer (some ⟨i.s, 0, none⟩), .pointer (some ⟨i.r, 0, none⟩)] 146 (0, 0)) ∧ SetAt w i.s i.m x.set ∧ RingAt w i.r x.wait ∧
    i.b ≠ i.m ∧ i.b ≠ i.r ∧ i.s ≠ i.m ∧ i.s ≠ i.r ∧ i.m ≠ i.r

theorem BulkAt.fr {S : Nat → Prop} {w w' : World} {i : BulkIds} {x : Bulk} (h : BulkAt w i x) (f : Fr S w w') (hb : ¬ S i.b) (hs : ¬ S i.s) (hm : ¬ S i.m) (hr : ¬ S i.r) : BulkAt w' i x :=
  ⟨h.1.fr f hb, h.2.1.fr f hs hm, h.2.2.1.fr f hr, h.2.2.2⟩
theorem BulkAt.nil {w w' : World} {i : BulkIds} {x : Bulk} (h : BulkAt w i x) (f : Fr Nil w w') : BulkAt w' i x := h.fr f (fun x => x) (fun x => x) (fun x => x) (fun x => x)
theorem BulkAt.set {w w' : World} {i : BulkIds} {x : Bulk} {s : PSet} (h : BulkAt w i x) (hs : SetAt w' i.s i.m s) (f : Fr (Only i.m) w w') : BulkAt w' i { x with set := s } :=
  ⟨h.1.fr f h.2.2.2.1, hs, h.2.2.1.fr f (fun e => h.2.2.2.2.2.2.2 e.symm), h.2.2.2⟩
theorem BulkAt.ring {w w' : World} {i : BulkIds} {x : Bulk} {r : Ring} (h : BulkAt w i x) (hr : RingAt w' i.r r) (f : Fr (Only i.r) w w') : BulkAt w' i { x with wait := r } :=
  ⟨h.1.fr f h.2.2.2.2.1, h.2.1.fr f h.2.2.2.2.2.2.1 h.2.2.2.2.2.2.2, hr, h.2.2.2⟩
theorem BulkAt.cells {w : World} {i : BulkIds} {x : Bulk} (h : BulkAt w i x) :
    w.cell? ⟨i.b, 0, none⟩ = some (.pointer (some ⟨i.s, 0, none⟩)) ∧ w.cell? ⟨i.b, 1, none⟩ = some (.pointer (some ⟨i.r, 0, none⟩)) := by
  constructor <;> rw [h.1.cell] <;> rfl

def Bulk.runs (x : Bulk) (id : Int) : Bool := x.set.has (id, 0)

theorem bulk_busy (i : BulkIds) (x : Bulk) (w : World) (h : BulkAt w i x) :
    Calls Try.prog 31 #[.pointer (some ⟨i.b, 0, none⟩)] w fun e w' => e = .returned (.int .i64 x.set.held.length) ∧ w = w' := by
  obtain ⟨c0, c1⟩ := h.cells
  have HU := Lib.hid (permit_used i.s i.m x.set w h.2.1)
  go_enter Try.func31, Try.ntmps31
  go_wp2_with (go_at_call 33; (with_reducible refine HU.out.mono ?_); rintro e w' ⟨rfl, rfl⟩)
  go_ret
  exact ⟨rfl, rfl⟩

theorem bulk_waiting (i : BulkIds) (x : Bulk) (w : World) (h : BulkAt w i x) :
    Calls Try.prog 32 #[.pointer (some ⟨i.b, 0, none⟩)] w (ListPost w x.wait.q) := by
  obtain ⟨c0, c1⟩ := h.cells
  have HU := Lib.hid (ring_list i.r x.wait w h.2.2.1)
  go_enter Try.func32, Try.ntmps32
  go_wp2_with (go_at_call 61; (with_reducible refine HU.out.mono ?_); rintro e w' ⟨hf, s, rfl, ho⟩)
  go_ret
  exact ⟨hf, s, rfl, ho⟩

def BulkPost (w : World) (i : BulkIds) (v : Value) (x : Bulk) (e : Ending) (w' : World) : Prop := e = .returned v ∧ BulkAt w' i x ∧ Fr i.in_ w w'

def Bulk.drop (x : Bulk) (id : Int) : Bool × Bulk := ((x.wait.remove id).1, { x with wait := (x.wait.remove id).2 })

theorem bulk_drop (i : BulkIds) (x : Bulk) (id : Int) (w : World) (h : BulkAt w i x) :
    Calls Try.prog 53 #[.pointer (some ⟨i.b, 0, none⟩), .int .i64 id] w (BulkPost w i (.bool (x.drop id).1) (x.drop id).2) := by
  obtain ⟨c0, c1⟩ := h.cells
  have HU := Lib.hid (ring_remove i.r x.wait id w h.2.2.1)
  unfold Bulk.drop
  go_enter Try.func53, Try.ntmps53
  go_wp2_with (go_at_call 89; (with_reducible refine HU.out.mono ?_); rintro e w' ⟨rfl, hr, hf⟩)
  go_ret
  exact ⟨rfl, h.ring hr hf, hf.mono (fun _ _ e => .inr e)⟩

set_option maxRecDepth 100000 in
set_option maxHeartbeats 1600000 in
theorem bulk_runs (i : BulkIds) (x : Bulk) (id : Int) (w : World) (h : BulkAt w i x) :
    Calls Try.prog 94 #[.pointer (some ⟨i.b, 0, none⟩), .int .i64 id] w fun e w' => e = .returned (.bool (x.runs id)) ∧ Fr Nil w w' := by
  obtain ⟨c0, c1⟩ := h.cells
  have hb := h.1.lt
  go_enter Try.func94, Try.ntmps94
  go_wp2_with fail
  go_region_held3 (fun w' => w'.cell? ⟨i.b, 0, none⟩ = some (.pointer (some ⟨i.s, 0, none⟩)))
    (first
      | (rw [cell_fr (hf.trans hf2) hb (fun x => x)]; exact c0)
      | (rw [cell_fr hf hb (fun x => x)]; exact c0)
      | go_keep)
    (first | (go_at_call 76; refine (bulk_own id _).mono ?_; rintro e w1 ⟨rfl, hf⟩) | (go_at_call 88; refine (permit_holds i.s i.m x.set (id, 0) _ (SetAt.fr (w := w.drew) h.2.1 hf (fun x => x) (fun x => x))).mono ?_; rintro e w2 ⟨rfl, hf2⟩))
  go_wp2_with fail
  go_ret
  exact ⟨rfl, (((Fr.refl Nil w).drew).trans hf).trans hf2⟩

def Bulk.free (x : Bulk) (id : Int) : Bool × Bulk := ((x.set.free (id, 0)).1, { x with set := (x.set.free (id, 0)).2 })

set_option maxRecDepth 100000 in
set_option maxHeartbeats 1600000 in
theorem bulk_free (i : BulkIds) (x : Bulk) (id : Int) (w : World) (h : BulkAt w i x) :
    Calls Try.prog 44 #[.pointer (some ⟨i.b, 0, none⟩), .int .i64 id] w (BulkPost w i (.bool (x.free id).1) (x.free id).2) := by
  obtain ⟨c0, c1⟩ := h.cells
  have hb := h.1.lt
  have hbm := h.2.2.2.1
  unfold Bulk.free
  go_enter Try.func44, Try.ntmps44
  go_wp2_with fail
  go_region_held3 (fun w' => w'.cell? ⟨i.b, 0, none⟩ = some (.pointer (some ⟨i.s, 0, none⟩)))
    (first
      | (rw [cell_fr ((hf.mono (fun _ _ x => x.elim)).trans hf2) hb hbm]; exact c0)
      | (rw [cell_fr hf hb (fun x => x)]; exact c0)
      | go_keep)
    (first | (go_at_call 76; refine (bulk_own id _).mono ?_; rintro e w1 ⟨rfl, hf⟩) | (go_at_call 52; refine (permit_free i.s i.m x.set (id, 0) _ (SetAt.fr (w := w.drew) h.2.1 hf (fun x => x) (fun x => x))).mono ?_; rintro e w2 ⟨rfl, hs2, hf2⟩))
  go_wp2_with fail
  go_ret
  have f1 : Fr Nil w w1 := ((Fr.refl Nil w).drew).trans hf
  exact ⟨rfl, (h.nil f1).set hs2 hf2, (f1.mono (fun _ _ x => x.elim)).trans (hf2.mono (fun _ _ e => .inl e))⟩

def Bulk.pick (x : Bulk) : Int × Bool × Bulk :=
  if x.set.room then (x.wait.pop.1, x.wait.pop.2.1, if x.wait.pop.2.1 then ⟨(x.set.take (x.wait.pop.1, 0)).2, x.wait.pop.2.2⟩ else x) else (0, false, x)

theorem pop_same {r : Ring} (h : r.pop.2.1 = false) : r.pop.2.2 = r := by
  unfold Ring.pop at *
  obtain ⟨m, q⟩ := r
  cases q with
  | nil => rfl
  | cons y q => cases h

set_option maxRecDepth 100000 in
set_option maxHeartbeats 1600000 in
theorem bulk_pick (i : BulkIds) (x : Bulk) (w : World) (h : BulkAt w i x) :
    Calls Try.prog 42 #[.pointer (some ⟨i.b, 0, none⟩)] w (BulkPost w i (.tuple #[.int .i64 x.pick.1, .bool x.pick.2.1]) x.pick.2.2) := by
  obtain ⟨c0, c1⟩ := h.cells
  have hb := h.1.lt
  have hbm := h.2.2.2.1
  have hbr := h.2.2.2.2.1
  have HR := Lib.hid (permit_room i.s i.m x.set w h.2.1)
  cases hr : x.set.room
  · have hf : x.pick = (0, false, x) := by simp [Bulk.pick, hr]
    rw [hf]
    rw [hr] at HR
    clear hf hr
    go_enter Try.func42, Try.ntmps42
    go_wp2_with fail
    refine HR.out.mono ?_
    rintro e w1 ⟨rfl, hq⟩
    go_wp2_with fail
    go_ret2
    exact ⟨rfl, h.nil (Fr.of_drewN hq), Fr.of_drewN hq⟩
  rw [hr] at HR
  have HPw := fun W hW => Lib.hid (ring_pop i.r x.wait W hW)
  cases hp : x.wait.pop.2.1
  · have hsame := pop_same hp
    have hf : x.pick = (x.wait.pop.1, false, x) := by simp [Bulk.pick, hr, hp]
    rw [hf]
    rw [hp, hsame] at HPw
    clear hf hr hp hsame
    generalize x.wait.pop.1 = id at *
    go_enter Try.func42, Try.ntmps42
    go_wp2_with fail
    refine HR.out.mono ?_
    rintro e w1 ⟨rfl, hq⟩
    have h1 := h.nil (Fr.of_drewN hq)
    have f1 : Fr Nil w w1 := Fr.of_drewN hq
    have d1 := h1.cells.2
    have HP := HPw w1 h1.2.2.1
    clear HPw
    go_wp2_with fail
    refine HP.out.mono ?_
    rintro e w2 ⟨rfl, hr2, hf2⟩
    go_wp2_with fail
    go_ret2
    exact ⟨rfl, h1.ring hr2 hf2, (f1.mono (fun _ _ x => x.elim)).trans (hf2.mono (fun _ _ e => .inr e))⟩
  · have hf : x.pick = (x.wait.pop.1, true, ⟨(x.set.take (x.wait.pop.1, 0)).2, x.wait.pop.2.2⟩) := by simp [Bulk.pick, hr, hp]
    rw [hf]
    rw [hp] at HPw
    clear hf hr hp
    generalize x.wait.pop.1 = id at *
    generalize x.wait.pop.2.2 = ring at *
    go_enter Try.func42, Try.ntmps42
    go_wp2_with fail
    refine HR.out.mono ?_
    rintro e w1 ⟨rfl, hq⟩
    have h1 := h.nil (Fr.of_drewN hq)
    have f1 : Fr Nil w w1 := Fr.of_drewN hq
    have d1 := h1.cells.2
    have HP := HPw w1 h1.2.2.1
    clear HPw
    go_wp2_with fail
    refine HP.out.mono ?_
    rintro e w2 ⟨rfl, hr2, hf2⟩
    have h2 := h1.ring hr2 hf2
    have f2 : Fr i.in_ w w2 := (f1.mono (fun _ _ x => x.elim)).trans (hf2.mono (fun _ _ e => .inr e))
    have e0 := h2.cells.1
    have hb2 := h2.1.lt
    clear c0 c1 d1 hq f1 h1 HP HR hr2 hf2
    go_wp2_with fail
    go_region_held3 (fun w' => w'.cell? ⟨i.b, 0, none⟩ = some (.pointer (some ⟨i.s, 0, none⟩)))
      (first
        | (rw [cell_fr ((hf3.mono (fun _ _ x => x.elim)).trans hf4) hb2 hbm]; exact e0)
        | (rw [cell_fr hf3 hb2 (fun x => x)]; exact e0)
        | go_keep)
      (first | (go_at_call 76; refine (bulk_own id _).mono ?_; rintro e w3 ⟨rfl, hf3⟩) | (go_at_call 75; refine (permit_take i.s i.m x.set (id, 0) _ (SetAt.fr (w := w2.drew) h2.2.1 hf3 (fun x => x) (fun x => x))).mono ?_; rintro e w4 ⟨rfl, hs4, hf4⟩))
    go_wp2_with fail
    go_ret2
    have f3 : Fr Nil w2 w3 := ((Fr.refl Nil w2).drew).trans hf3
    exact ⟨rfl, (h2.nil f3).set hs4 hf4, f2.trans ((f3.mono (fun _ _ x => x.elim)).trans (hf4.mono (fun _ _ e => .inl e)))⟩

end Go.Proofs.Ythnaieeaominjaa
