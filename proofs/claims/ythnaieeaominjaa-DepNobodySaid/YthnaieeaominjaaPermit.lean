/-
  Package permit: permits, and who holds them.
-/
import Derived.Test.YthnaieeaominjaaMap
import Derived.Test.YthnaieeaominjaaSat
namespace Go.Proofs.Ythnaieeaominjaa
open Go.RowKit
set_option linter.unusedVariables false
set_option linter.unusedSimpArgs false

def hkey (h : Int × Int) : Value := .agg #[.int .i64 h.1, .int .i64 h.2]
def isHolder (h : Int × Int) : Value → Bool := isAgg [h.1, h.2]
def holderKey : Value → Prop := fun v => ∃ h, v = hkey h

theorem sameBits_pair (n : Nat) (a b c d : Int) : Instr.sameBits (n + 1) (.agg #[.int .i64 a, .int .i64 b]) (.agg #[.int .i64 c, .int .i64 d]) = (a == c && b == d) := by
  simp [Instr.sameBits, sameBits_int]
theorem check_holder (b : Bool) (n : Nat) (h : Int × Int) (w : World) : (Instr.checkKey b (n + 2) 129 (hkey h)).run Try.prog w = .ok () w := by
  unfold hkey
  simp [Instr.checkKey, run_underlying Try.underlying129, go_sem]
theorem equal_holder (h g : Int × Int) (w : World) : (Op.equal 129 (hkey h) (hkey g)).run Try.prog w = .ok (isHolder h (hkey g)) w := by
  unfold hkey Op.equal Op.maxDepth
  go_simp
  unfold isHolder isAgg
  simp only [eqInts]
  by_cases h1 : h.1 = g.1 <;> by_cases h2 : h.2 = g.2 <;> simp [h1, h2]
theorem key_holder (h : Int × Int) : Key Try.prog 129 (hkey h) (isHolder h) holderKey :=
  key_struct Try.underlying129 (fun b w => check_holder b 9998 h w) (fun x hx w => by obtain ⟨g, rfl⟩ := hx; exact equal_holder h g w)
    (fun x hx hp => by
      obtain ⟨g, rfl⟩ := hx
      unfold hkey
      rw [sameBits_pair 9999]
      simp [isHolder, isAgg, eqInts, hkey] at hp
      simp [hp])

structure PSet where
  most : Int
  held : List (Int × Int)
deriving DecidableEq

def PSet.room (s : PSet) : Bool := decide ((s.held.length : Int) < s.most)
def PSet.has (s : PSet) (h : Int × Int) : Bool := decide (h ∈ s.held)
def PSet.take (s : PSet) (h : Int × Int) : Bool × PSet := if s.room && !s.has h then (true, { s with held := s.held ++ [h] }) else (false, s)
def PSet.free (s : PSet) (h : Int × Int) : Bool × PSet := if s.has h then (true, { s with held := s.held.erase h }) else (false, s)

def heldKV (l : List (Int × Int)) : List (Value × Value) := l.map fun h => (hkey h, .bool true)
theorem isHolder_key (h g : Int × Int) : isHolder h (hkey g) = decide (h = g) := by
  obtain ⟨a, b⟩ := h; obtain ⟨c, d⟩ := g
  simp only [isHolder, isAgg, eqInts, hkey, Prod.mk.injEq]
  by_cases h1 : a = c <;> by_cases h2 : b = d <;> simp [h1, h2]
theorem find_held (h : Int × Int) (l : List (Int × Int)) : lfind (isHolder h) (heldKV l) = if h ∈ l then some (.bool true) else none := by
  induction l with
  | nil => rfl
  | cons g l ih =>
    simp only [heldKV, List.map_cons, lfind, isHolder_key] at *
    by_cases e : h = g
    · simp [e]
    · simp only [e, decide_false, Bool.false_eq_true, if_false, List.mem_cons, false_or]; exact ih
theorem set_held {h : Int × Int} {l : List (Int × Int)} (hn : h ∉ l) : lset (isHolder h) (hkey h) (.bool true) (heldKV l) = heldKV (l ++ [h]) := by
  induction l with
  | nil => rfl
  | cons g l ih =>
    have e : h ≠ g := fun e => hn (by simp [e])
    have := ih (fun x => hn (by simp [x]))
    simp only [heldKV, List.map_cons, List.cons_append, lset, isHolder_key, e, decide_false, Bool.false_eq_true, if_false] at *
    rw [this]
theorem del_held {h : Int × Int} {l : List (Int × Int)} : ldel (isHolder h) (heldKV l) = heldKV (l.erase h) := by
  induction l with
  | nil => rfl
  | cons g l ih =>
    by_cases e : h = g
    · subst e; simp [heldKV, ldel, isHolder_key]
    · have e' : ¬ g = h := fun x => e x.symm
      simp only [heldKV, List.map_cons, ldel, isHolder_key, e, decide_false, Bool.false_eq_true, if_false] at *
      rw [List.erase_cons_tail (by simpa using e'), ih]; rfl
theorem held_keys (l : List (Int × Int)) : ∀ e ∈ heldKV l, holderKey e.1 := by
  intro e he
  obtain ⟨h, -, rfl⟩ := List.mem_map.1 he
  exact ⟨h, rfl⟩

/-- The set in block p, its map in block m. -/
def SetAt (w : World) (p m : Nat) (s : PSet) : Prop :=
  Blk w p (.cells #[.int .i64 s.most, .map (some m)] 149 (0, 0)) ∧ MapAt w m (heldKV s.held) ∧ I64 s.most ∧ s.held.length ≤ 1000 ∧ 0 ≤ s.most ∧ s.most ≤ 8

theorem SetAt.fr {S : Nat → Prop} {w w' : World} {p m : Nat} {s : PSet} (h : SetAt w p m s) (f : Fr S w w') (hp : ¬ S p) (hm : ¬ S m) : SetAt w' p m s := ⟨h.1.fr f hp, h.2.1.fr f hm, h.2.2⟩
theorem SetAt.drewN {w : World} {p m : Nat} {s : PSet} (h : SetAt w p m s) (n : Nat) : SetAt (w.drewN n) p m s := h
theorem SetAt.alloc {w : World} {p m : Nat} {s : PSet} (h : SetAt w p m s) (o : Obj) : SetAt (w.alloc o) p m s := h.fr ((Fr.refl Nil w).alloc o) (fun x => x) (fun x => x)
theorem SetAt.cells {w : World} {p m : Nat} {s : PSet} (h : SetAt w p m s) : w.cell? ⟨p, 0, none⟩ = some (.int .i64 s.most) ∧ w.cell? ⟨p, 1, none⟩ = some (.map (some m)) := by
  constructor <;> rw [h.1.cell] <;> rfl
theorem SetAt.look {w : World} {p m : Nat} {s : PSet} (h : SetAt w p m s) (x : Int × Int) : (Instr.lookup 147 (.map (some m)) (hkey x) false).run Try.prog w = .ok (.bool (s.has x)) w := by
  rw [run_lookup Try.underlying147 (z := .bool false) (fun w => by kernel_rfl) (key_holder x) h.2.1 (held_keys _), find_held]
  unfold PSet.has
  by_cases e : x ∈ s.held <;> simp [e]

theorem permit_used (p m : Nat) (s : PSet) (w : World) (h : SetAt w p m s) :
    Calls Try.prog 33 #[.pointer (some ⟨p, 0, none⟩)] w fun e w' => e = .returned (.int .i64 s.held.length) ∧ w = w' := by
  obtain ⟨c0, c1⟩ := h.cells
  have hl := run_len_map (ty := 3) Try.underlying147 h.2.1
  have e : (heldKV s.held).length = s.held.length := by simp [heldKV]
  rw [e] at hl
  clear e
  go_enter Try.func33, Try.ntmps33
  go_wp2_with fail
  go_ret
  exact ⟨rfl, rfl⟩

theorem permit_room (p m : Nat) (s : PSet) (w : World) (h : SetAt w p m s) :
    Calls Try.prog 73 #[.pointer (some ⟨p, 0, none⟩)] w fun e w' => e = .returned (.bool s.room) ∧ Quiet w w' := by
  obtain ⟨c0, c1⟩ := h.cells
  have hl := fun n => run_len_map (ty := 3) Try.underlying147 (h.2.1.drewN n)
  have e : (heldKV s.held).length = s.held.length := by simp [heldKV]
  rw [e] at hl
  clear e
  go_enter Try.func73, Try.ntmps73
  go_wp2_with fail
  go_quiet (fail)
  go_wp2_with fail
  go_ret
  exact ⟨rfl, Quiet.of _ _⟩

theorem permit_holds (p m : Nat) (s : PSet) (x : Int × Int) (w : World) (h : SetAt w p m s) :
    Calls Try.prog 88 #[.pointer (some ⟨p, 0, none⟩), hkey x] w fun e w' => e = .returned (.bool (s.has x)) ∧ Fr Nil w w' := by
  obtain ⟨c0, c1⟩ := h.cells
  have hp := h.1.lt
  unfold hkey
  go_enter Try.func88, Try.ntmps88
  go_wp2_with fail
  have hl := fun n => ((h.alloc (.cells #[.int .i64 x.1, .int .i64 x.2] 129)).drewN n).look x
  unfold hkey at hl
  go_quiet (fail)
  go_wp2_with fail
  go_ret
  exact ⟨rfl, ((Fr.refl _ _).alloc _).drewN _⟩

theorem SetAt.put {w : World} {p m : Nat} {s : PSet} (h : SetAt w p m s) {x : Int × Int} (hr : s.room = true) (hn : s.has x = false) :
    ∃ o, ∀ W : World, W.heap[m]? = w.heap[m]? → (Instr.mapUpdate 147 (.map (some m)) (hkey x) (.bool true)).run Try.prog W = .ok () (World.setObj W m o) ∧ MapAt (World.setObj W m o) m (heldKV (s.held ++ [x])) := by
  have := run_update Try.underlying147 (val := .bool true) (key_holder x) h.2.1 (held_keys _)
  rw [set_held (by simpa [PSet.has] using hn)] at this
  exact this
theorem SetAt.cut {w : World} {p m : Nat} {s : PSet} (h : SetAt w p m s) (x : Int × Int) (ty : TypeId) :
    ∃ o, ∀ W : World, W.heap[m]? = w.heap[m]? → (Builtin.delete_ #[147, 129] ty #[.map (some m), hkey x]).run Try.prog W = .ok (.tuple #[]) (World.setObj W m o) ∧ MapAt (World.setObj W m o) m (heldKV (s.held.erase x)) := by
  have := run_delete (ty := ty) (t2 := 129) Try.underlying147 (key_holder x) h.2.1 (held_keys _)
  rw [del_held] at this
  exact this

theorem SetAt.ne {w : World} {p m : Nat} {s : PSet} (h : SetAt w p m s) : p ≠ m := by
  rintro rfl
  obtain ⟨es, c, hb, -⟩ := h.2.1
  have := h.1.symm.trans hb
  cases this
theorem SetAt.turn {w : World} {p m : Nat} {s : PSet} (h : SetAt w p m s) {o : Obj} {l : List (Int × Int)} (ho : MapAt (World.setObj w m o) m (heldKV l)) (hl : l.length ≤ 1000) : SetAt (World.setObj w m o) p m { s with held := l } :=
  ⟨h.1.fr setObj_fr h.ne, ho, h.2.2.1, hl, h.2.2.2.2⟩
def Two (a b : Nat) : Nat → Prop := fun k => k = a ∨ k = b
/-- A method of a set: what it tells, and how it stands then. -/
def SetPost (w : World) (p m : Nat) (v : Value) (s : PSet) (e : Ending) (w' : World) : Prop := e = .returned v ∧ SetAt w' p m s ∧ Fr (Only m) w w'

theorem room_lt {s : PSet} (h : s.room = true) (h8 : s.most ≤ 8) : s.held.length + 1 ≤ 1000 := by simp [PSet.room] at h; omega

set_option maxRecDepth 100000 in
set_option maxHeartbeats 400000 in
theorem permit_take (p m : Nat) (s : PSet) (x : Int × Int) (w : World) (h : SetAt w p m s) :
    Calls Try.prog 75 #[.pointer (some ⟨p, 0, none⟩), hkey x] w (SetPost w p m (.bool (s.take x).1) (s.take x).2) := by
  obtain ⟨c0, c1⟩ := h.cells
  have hpl := h.1.lt
  have hml := h.2.1.lt
  have h1 := h.alloc (.cells #[.int .i64 x.1, .int .i64 x.2] 129)
  have hrm := fun n => Lib.hid (permit_room p m s _ (h1.drewN n))
  have hl := fun n => (h1.drewN n).look x
  unfold hkey at hl
  cases hr : s.room
  · have hf : s.take x = (false, s) := by simp [PSet.take, hr]
    rw [hf]
    rw [hr] at hrm
    clear hf hr
    unfold hkey
    go_enter Try.func75, Try.ntmps75
    go_wp2_with fail
    go_quiet ((go_at_call 73; exact Calls.quiet_of (hrm _).out))
    go_wp2_with fail
    go_ret
    exact ⟨rfl, h1.drewN _, ((Fr.refl _ _).alloc _).drewN _⟩
  cases hh : s.has x
  · have hf : s.take x = (true, { s with held := s.held ++ [x] }) := by simp [PSet.take, hr, hh]
    rw [hf]
    obtain ⟨o, ho⟩ := h1.put hr hh
    have hlen := room_lt hr h.2.2.2.2.2
    rw [hr] at hrm
    rw [hh] at hl
    have hu := fun n => (ho ((w.alloc (.cells #[.int .i64 x.1, .int .i64 x.2] 129)).drewN n) rfl).1
    have HO := Lib.hid ho
    clear hf hr hh ho
    unfold hkey at hu ⊢
    go_enter Try.func75, Try.ntmps75
    go_wp2_with fail
    go_quiet ((go_at_call 73; exact Calls.quiet_of (hrm _).out))
    go_wp2_with fail
    refine region_tail 5 (by kernel_rfl) (by kernel_rfl) ?_
    simp only [List.take_succ_cons, List.take_zero, List.drop_succ_cons, List.drop_zero, World.drewN_drewN]
    repeat still_step
    refine wpStill_nil ?_
    go_wp2_with fail
    go_ret
    refine ⟨rfl, (h1.drewN _).turn (HO.out _ rfl).2 (by simpa using hlen), ?_⟩
    exact (((Fr.refl _ _).alloc _).drewN _).trans setObj_fr
  · have hf : s.take x = (false, s) := by simp [PSet.take, hr, hh]
    rw [hf]
    rw [hr] at hrm
    rw [hh] at hl
    clear hf hr hh
    unfold hkey
    go_enter Try.func75, Try.ntmps75
    go_wp2_with fail
    go_quiet ((go_at_call 73; exact Calls.quiet_of (hrm _).out))
    go_wp2_with fail
    go_ret
    exact ⟨rfl, h1.drewN _, ((Fr.refl _ _).alloc _).drewN _⟩

set_option maxRecDepth 100000 in
set_option maxHeartbeats 400000 in
theorem permit_free (p m : Nat) (s : PSet) (x : Int × Int) (w : World) (h : SetAt w p m s) :
    Calls Try.prog 52 #[.pointer (some ⟨p, 0, none⟩), hkey x] w (SetPost w p m (.bool (s.free x).1) (s.free x).2) := by
  obtain ⟨c0, c1⟩ := h.cells
  have hpl := h.1.lt
  have hml := h.2.1.lt
  have h1 := h.alloc (.cells #[.int .i64 x.1, .int .i64 x.2] 129)
  have HH := Lib.hid (permit_holds p m s x _ h1)
  unfold hkey at HH
  cases hh : s.has x
  · have hf : s.free x = (false, s) := by simp [PSet.free, hh]
    rw [hf]
    rw [hh] at HH
    clear hf hh
    unfold hkey
    go_enter Try.func52, Try.ntmps52
    go_wp2_with fail
    refine HH.out.mono ?_
    rintro e w2 ⟨rfl, hf2⟩
    go_wp2_with fail
    go_ret
    exact ⟨rfl, h1.fr hf2 (fun x => x) (fun x => x), ((Fr.refl _ _).alloc _).trans (hf2.mono (fun _ _ x => x.elim))⟩
  · have hf : s.free x = (true, { s with held := s.held.erase x }) := by simp [PSet.free, hh]
    rw [hf]
    rw [hh] at HH
    clear hf hh
    unfold hkey
    go_enter Try.func52, Try.ntmps52
    go_wp2_with fail
    refine HH.out.mono ?_
    rintro e w2 ⟨rfl, hf2⟩
    have h2 := h1.fr hf2 (fun x => x) (fun x => x)
    have d1 := h2.cells.2
    have b0 := (cell_fr (o := 0) hf2 (b := w.heap.size) (by simp) (fun x => x))
    have b1 := (cell_fr (o := 1) hf2 (b := w.heap.size) (by simp) (fun x => x))
    simp at b0 b1
    obtain ⟨o, ho⟩ := h2.cut x 0
    have hu := fun n => (ho (w2.drewN n) rfl).1
    have HO := Lib.hid ho
    have hfr := ((Fr.refl (Only m) w).alloc (.cells #[.int .i64 x.1, .int .i64 x.2] 129)).trans (hf2.mono (fun _ _ x => x.elim))
    have hlen : (s.held.erase x).length ≤ 1000 := Nat.le_trans (List.length_erase_le ..) h2.2.2.2.1
    unfold hkey at hu
    clear ho hf2 c0 c1
    go_wp2_with fail
    refine region_tail 5 (by kernel_rfl) (by kernel_rfl) ?_
    simp only [List.take_succ_cons, List.take_zero, List.drop_succ_cons, List.drop_zero, World.drewN_drewN]
    repeat still_step
    refine wpStill_nil ?_
    go_wp2_with fail
    go_ret
    refine ⟨rfl, (h2.drewN _).turn (HO.out _ rfl).2 hlen, ?_⟩
    exact (hfr.drewN _).trans setObj_fr

/-- A new set. -/
theorem permit_new (most : Int) (w : World) (h0 : 0 ≤ most) (h8 : most ≤ 8) :
    Calls Try.prog 26 #[.int .i64 most] w fun e w' => ∃ p m, e = .returned (.pointer (some ⟨p, 0, none⟩)) ∧ SetAt w' p m ⟨most, []⟩ ∧ w.heap.size ≤ p ∧ w.heap.size ≤ m ∧ Fr Nil w w' := by
  have hmm := @run_makeMap Try.prog
  have h0' : decide (most < 0) = false := by simp; omega
  have h8' : decide (8 < most) = false := by simp; omega
  go_enter Try.func26, Try.ntmps26
  go_wp2_with fail
  go_ret
  refine ⟨w.heap.size + 1, w.heap.size, rfl, ⟨by have := Blk.new (w.alloc (.map #[] 0)) (.cells #[.int .i64 most, .map (some w.heap.size)] 149); simpa using this, ?_, ?_, by simp, h0, h8⟩, by omega, by omega, ((Fr.refl _ _).alloc _).alloc _⟩
  · exact (MapAt.new w).fr ((Fr.refl Nil _).alloc _) (fun x => x)
  · exact ⟨by show _ ≤ most; omega, by show most ≤ _; omega⟩

end Go.Proofs.Ythnaieeaominjaa
