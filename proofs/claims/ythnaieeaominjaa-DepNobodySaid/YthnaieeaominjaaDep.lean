/-
  Package dep: a dependency as a plain thing, and how it lies in memory.
-/
import Derived.Test.YthnaieeaominjaaAdmit
import Derived.Test.YthnaieeaominjaaBrk
import Derived.Test.YthnaieeaominjaaCall
import Derived.Test.YthnaieeaominjaaBatch
import Derived.Test.YthnaieeaominjaaOuts
import Derived.Test.YthnaieeaominjaaHistPct
import Derived.Test.YthnaieeaominjaaHealth
import Derived.Test.YthnaieeaominjaaBulkNew
namespace Go.Proofs.Ythnaieeaominjaa
open Go.RowKit
set_option linter.unusedVariables false
set_option linter.unusedSimpArgs false

/-- A call, and what its slices read as. -/
structure Cl where
  r : CallR
  al : List Int
  ml : List (Int × Int)

structure Dp where
  cf : Cf
  brk : Brk
  bulk : Bulk
  falls : PSet
  win : Grid
  calls : List (Int × Cl)
  probe : Int

structure DepIds where
  d : Nat
  brk : Nat
  bulk : BulkIds
  fs : Nat
  fm : Nat
  win : Nat
  hist : Nat
  calls : Nat
  /-- From here on lies what a deed makes: no call's slices. -/
  lim : Nat
  /-- Where else no call's slices lie. -/
  ex : Nat → Prop

def DepIds.all (i : DepIds) : List Nat := [i.d, i.brk, i.bulk.b, i.bulk.s, i.bulk.m, i.bulk.r, i.fs, i.fm, i.win, i.hist, i.calls]
/-- The blocks of a dependency. -/
def DepIds.S (i : DepIds) : Nat → Prop := fun k => k ∈ i.all
/-- Where no call's slices lie. -/
def DepIds.M (i : DepIds) : Nat → Prop := fun k => i.S k ∨ i.ex k ∨ i.lim ≤ k
def DepIds.nth (i : DepIds) : Nat → Nat
  | 0 => i.d | 1 => i.brk | 2 => i.bulk.b | 3 => i.bulk.s | 4 => i.bulk.m | 5 => i.bulk.r | 6 => i.fs | 7 => i.fm | 8 => i.win | 9 => i.hist | _ => i.calls
theorem DepIds.get (i : DepIds) : ∀ a, a < 11 → i.all[a]? = some (i.nth a)
  | 0, _ => rfl | 1, _ => rfl | 2, _ => rfl | 3, _ => rfl | 4, _ => rfl | 5, _ => rfl | 6, _ => rfl | 7, _ => rfl | 8, _ => rfl | 9, _ => rfl | 10, _ => rfl
  | _ + 11, h => absurd h (by omega)
theorem DepIds.ne (i : DepIds) (h : i.all.Nodup) (a b : Nat) (ha : a < 11 := by decide) (hb : b < 11 := by decide) (hab : a ≠ b := by decide) : i.nth a ≠ i.nth b := fun e =>
  hab ((List.getElem?_inj (show a < i.all.length from ha) h).1 (by rw [i.get a ha, i.get b hb, e]))
theorem DepIds.mem (i : DepIds) (a : Nat) (ha : a < 11 := by decide) : i.S (i.nth a) := List.mem_of_getElem? (i.get a ha)

def callKV (l : List (Int × Cl)) : List (Value × Value) := l.map fun p => (.int .i64 p.1, p.2.r.val)
/-- A call's slices can be read, away from what a dependency turns. -/
structure Cl.At (w : World) (M : Nat → Prop) (c : Cl) : Prop where
  args : Rd w M c.r.args 1 c.al.length (ints c.al)
  members : Rd w M c.r.members 2 c.ml.length (pairs c.ml)
  step : 0 ≤ c.r.step
  start : U64 c.r.start
theorem Cl.At.fr {S M : Nat → Prop} {w w' : World} {c : Cl} (h : c.At w M) (f : Fr S w w') (hs : ∀ b, b < w.heap.size → S b → M b) : c.At w' M := ⟨h.args.fr f hs, h.members.fr f hs, h.step, h.start⟩
theorem Cl.At.mono {M M' : Nat → Prop} {w : World} {c : Cl} (h : c.At w M) (hm : ∀ b, b < w.heap.size → M' b → M b) : c.At w M' := ⟨h.args.mono hm, h.members.mono hm, h.step, h.start⟩
def CallsAt (w : World) (M : Nat → Prop) (m : Nat) (l : List (Int × Cl)) : Prop := MapAt w m (callKV l) ∧ ∀ p ∈ l, p.2.At w M

def cget (id : Int) : List (Int × Cl) → Option Cl
  | [] => none
  | p :: l => if id = p.1 then some p.2 else cget id l
def cset (id : Int) (c : Cl) : List (Int × Cl) → List (Int × Cl)
  | [] => [(id, c)]
  | p :: l => if id = p.1 then (id, c) :: l else p :: cset id c l
def cdel (id : Int) : List (Int × Cl) → List (Int × Cl)
  | [] => []
  | p :: l => if id = p.1 then l else p :: cdel id l

theorem get_kv (id : Int) : ∀ l, lfind (isInt id) (callKV l) = (cget id l).map fun c => c.r.val
  | [] => rfl
  | p :: l => by
    have ih := get_kv id l
    simp only [callKV] at ih
    by_cases h : id = p.1 <;> simp [callKV, lfind, isInt, cget, h, ih]
theorem set_kv (id : Int) (c : Cl) : ∀ l, lset (isInt id) (.int .i64 id) c.r.val (callKV l) = callKV (cset id c l)
  | [] => rfl
  | p :: l => by
    have ih := set_kv id c l
    simp only [callKV] at ih
    by_cases h : id = p.1 <;> simp [callKV, lset, isInt, cset, h, ih]
theorem del_kv (id : Int) : ∀ l, ldel (isInt id) (callKV l) = callKV (cdel id l)
  | [] => rfl
  | p :: l => by
    have ih := del_kv id l
    simp only [callKV] at ih
    by_cases h : id = p.1 <;> simp [callKV, ldel, isInt, cdel, h, ih]
theorem kv_dom (l : List (Int × Cl)) : ∀ e ∈ callKV l, intKey e.1 := by
  intro e he
  simp only [callKV, List.mem_map] at he
  obtain ⟨p, -, rfl⟩ := he
  exact ⟨p.1, rfl⟩
theorem mem_cset {id : Int} {c : Cl} : ∀ {l : List (Int × Cl)} {p}, p ∈ cset id c l → p = (id, c) ∨ p ∈ l
  | [], p, h => by simp [cset] at h; exact .inl h
  | q :: l, p, h => by
    unfold cset at h
    split at h
    · rcases List.mem_cons.1 h with h | h
      · exact .inl h
      · exact .inr (List.mem_cons_of_mem _ h)
    · rcases List.mem_cons.1 h with h | h
      · exact .inr (h ▸ List.mem_cons_self ..)
      · rcases mem_cset h with h | h
        · exact .inl h
        · exact .inr (List.mem_cons_of_mem _ h)
theorem mem_cdel {id : Int} : ∀ {l : List (Int × Cl)} {p}, p ∈ cdel id l → p ∈ l
  | [], p, h => h
  | q :: l, p, h => by
    unfold cdel at h
    split at h
    · exact List.mem_cons_of_mem _ h
    · rcases List.mem_cons.1 h with h | h
      · exact h ▸ List.mem_cons_self ..
      · exact List.mem_cons_of_mem _ (mem_cdel h)
theorem cget_mem {id : Int} {c : Cl} : ∀ {l : List (Int × Cl)}, cget id l = some c → ∃ p ∈ l, p.2 = c ∧ p.1 = id
  | [], h => by simp [cget] at h
  | q :: l, h => by
    unfold cget at h
    split at h
    · rename_i he
      exact ⟨q, List.mem_cons_self .., by simpa using h, he.symm⟩
    · obtain ⟨p, hp, h1⟩ := cget_mem h
      exact ⟨p, List.mem_cons_of_mem _ hp, h1⟩

def DepIds.cells (i : DepIds) (cf : Cf) (probe : Int) : Array Value :=
  #[.pointer (some ⟨i.brk, 0, none⟩), .pointer (some ⟨i.bulk.b, 0, none⟩), .int .i64 cf.mode, .int .i64 cf.pool, .int .i64 cf.queue, .int .i64 cf.sem, .int .i64 cf.fb, .int .i64 cf.chain, .int .u64 cf.tmo, .int .u64 cf.fbt,
    .int .i64 cf.vol, .int .i64 cf.pct, .int .u64 cf.sleep, .int .i64 cf.bkts, .int .u64 cf.width, .int .u64 cf.win, .int .i64 cf.bat, .int .i64 cf.force,
    .pointer (some ⟨i.fs, 0, none⟩), .pointer (some ⟨i.win, 0, none⟩), .pointer (some ⟨i.hist, 0, none⟩), .map (some i.calls), .int .i64 probe]

structure DepAt (w : World) (i : DepIds) (D : Dp) : Prop where
  blk : Blk w i.d (.cells (i.cells D.cf D.probe) 100 (0, 0))
  brk : BrkAt w i.brk D.brk
  bulk : BulkAt w i.bulk D.bulk
  falls : SetAt w i.fs i.fm D.falls
  win : GridAt 6 154 w i.win D.win
  hist : HistAt w i.hist
  calls : CallsAt w i.M i.calls D.calls
  nd : i.all.Nodup
  typed : D.cf.Typed
  chain : 0 ≤ D.cf.chain ∧ D.cf.chain ≤ 3

theorem CallsAt.fr {S M : Nat → Prop} {w w' : World} {m : Nat} {l : List (Int × Cl)} (h : CallsAt w M m l) (f : Fr S w w') (hm : ¬ S m) (hs : ∀ b, b < w.heap.size → S b → M b) : CallsAt w' M m l :=
  ⟨h.1.fr f hm, fun p hp => (h.2 p hp).fr f hs⟩

section
variable {w w' : World} {i : DepIds} {D : Dp}

theorem DepAt.relim (h : DepAt w i D) (L : Nat) (hL : w.heap.size ≤ L) : DepAt w { i with lim := L } D where
  blk := h.blk
  brk := h.brk
  bulk := h.bulk
  falls := h.falls
  win := h.win
  hist := h.hist
  calls := ⟨h.calls.1, fun p hp => (h.calls.2 p hp).mono (fun b hb e => by rcases e with e | e | e; exact .inl e; exact .inr (.inl e); simp only at e; omega)⟩
  nd := h.nd
  typed := h.typed
  chain := h.chain
theorem DepAt.apart (h : DepAt w i D) : i.all.Nodup := h.nd

/-- Where nothing of a dependency turns. -/
theorem DepAt.fr {S : Nat → Prop} (h : DepAt w i D) (f : Fr S w w') (hs : ∀ k, i.S k → ¬ S k) (hr : ∀ b, b < w.heap.size → S b → i.M b) : DepAt w' i D where
  blk := h.blk.fr f (hs _ (i.mem 0))
  brk := h.brk.fr f (hs _ (i.mem 1))
  bulk := h.bulk.fr f (hs _ (i.mem 2)) (hs _ (i.mem 3)) (hs _ (i.mem 4)) (hs _ (i.mem 5))
  falls := h.falls.fr f (hs _ (i.mem 6)) (hs _ (i.mem 7))
  win := h.win.fr f (hs _ (i.mem 8))
  hist := h.hist.fr f (hs _ (i.mem 9))
  calls := h.calls.fr f (hs _ (i.mem 10)) hr
  nd := h.nd
  typed := h.typed
  chain := h.chain
theorem DepAt.nil (h : DepAt w i D) (f : Fr Nil w w') : DepAt w' i D := h.fr f (fun _ _ x => x) (fun _ _ x => x.elim)

-- upd: printed by gen/dep.py
theorem DepAt.upd_brk (h : DepAt w i D) {b : Brk} (hb : BrkAt w' i.brk b) (f : Fr (Only i.brk) w w') : DepAt w' i { D with brk := b } :=
  ⟨h.blk.fr f (i.ne h.nd 0 1), hb, h.bulk.fr f (i.ne h.nd 2 1) (i.ne h.nd 3 1) (i.ne h.nd 4 1) (i.ne h.nd 5 1), h.falls.fr f (i.ne h.nd 6 1) (i.ne h.nd 7 1), h.win.fr f (i.ne h.nd 8 1), h.hist.fr f (i.ne h.nd 9 1), h.calls.fr f (i.ne h.nd 10 1) (fun b _ e => by cases e; exact .inl (i.mem 1)), h.nd, h.typed, h.chain⟩
theorem DepAt.upd_bulk (h : DepAt w i D) {b : Bulk} (hb : BulkAt w' i.bulk b) (f : Fr i.bulk.in_ w w') : DepAt w' i { D with bulk := b } :=
  ⟨h.blk.fr f (fun e => e.elim (i.ne h.nd 0 4) (i.ne h.nd 0 5)), h.brk.fr f (fun e => e.elim (i.ne h.nd 1 4) (i.ne h.nd 1 5)), hb, h.falls.fr f (fun e => e.elim (i.ne h.nd 6 4) (i.ne h.nd 6 5)) (fun e => e.elim (i.ne h.nd 7 4) (i.ne h.nd 7 5)), h.win.fr f (fun e => e.elim (i.ne h.nd 8 4) (i.ne h.nd 8 5)), h.hist.fr f (fun e => e.elim (i.ne h.nd 9 4) (i.ne h.nd 9 5)), h.calls.fr f (fun e => e.elim (i.ne h.nd 10 4) (i.ne h.nd 10 5)) (fun b _ e => by rcases e with e | e <;> cases e; exact .inl (i.mem 4); exact .inl (i.mem 5)), h.nd, h.typed, h.chain⟩
theorem DepAt.upd_falls (h : DepAt w i D) {b : PSet} (hb : SetAt w' i.fs i.fm b) (f : Fr (Only i.fm) w w') : DepAt w' i { D with falls := b } :=
  ⟨h.blk.fr f (i.ne h.nd 0 7), h.brk.fr f (i.ne h.nd 1 7), h.bulk.fr f (i.ne h.nd 2 7) (i.ne h.nd 3 7) (i.ne h.nd 4 7) (i.ne h.nd 5 7), hb, h.win.fr f (i.ne h.nd 8 7), h.hist.fr f (i.ne h.nd 9 7), h.calls.fr f (i.ne h.nd 10 7) (fun b _ e => by cases e; exact .inl (i.mem 7)), h.nd, h.typed, h.chain⟩
theorem DepAt.upd_win (h : DepAt w i D) {b : Grid} (hb : GridAt 6 154 w' i.win b) (f : Fr (Only i.win) w w') : DepAt w' i { D with win := b } :=
  ⟨h.blk.fr f (i.ne h.nd 0 8), h.brk.fr f (i.ne h.nd 1 8), h.bulk.fr f (i.ne h.nd 2 8) (i.ne h.nd 3 8) (i.ne h.nd 4 8) (i.ne h.nd 5 8), h.falls.fr f (i.ne h.nd 6 8) (i.ne h.nd 7 8), hb, h.hist.fr f (i.ne h.nd 9 8), h.calls.fr f (i.ne h.nd 10 8) (fun b _ e => by cases e; exact .inl (i.mem 8)), h.nd, h.typed, h.chain⟩
theorem DepAt.upd_hist (h : DepAt w i D) (hb : HistAt w' i.hist) (f : Fr (Only i.hist) w w') : DepAt w' i D :=
  ⟨h.blk.fr f (i.ne h.nd 0 9), h.brk.fr f (i.ne h.nd 1 9), h.bulk.fr f (i.ne h.nd 2 9) (i.ne h.nd 3 9) (i.ne h.nd 4 9) (i.ne h.nd 5 9), h.falls.fr f (i.ne h.nd 6 9) (i.ne h.nd 7 9), h.win.fr f (i.ne h.nd 8 9), hb, h.calls.fr f (i.ne h.nd 10 9) (fun b _ e => by cases e; exact .inl (i.mem 9)), h.nd, h.typed, h.chain⟩
theorem DepAt.upd_calls (h : DepAt w i D) {l : List (Int × Cl)} (hb : MapAt w' i.calls (callKV l)) (hl : ∀ p ∈ l, p.2.At w i.M) (f : Fr (Only i.calls) w w') : DepAt w' i { D with calls := l } :=
  ⟨h.blk.fr f (i.ne h.nd 0 10), h.brk.fr f (i.ne h.nd 1 10), h.bulk.fr f (i.ne h.nd 2 10) (i.ne h.nd 3 10) (i.ne h.nd 4 10) (i.ne h.nd 5 10), h.falls.fr f (i.ne h.nd 6 10) (i.ne h.nd 7 10), h.win.fr f (i.ne h.nd 8 10), h.hist.fr f (i.ne h.nd 9 10), ⟨hb, fun p hp => (hl p hp).fr f (fun b _ e => by cases e; exact .inl (i.mem 10))⟩, h.nd, h.typed, h.chain⟩
theorem DepAt.upd_probe (h : DepAt w i D) (x : Int) : DepAt (w.setCell ⟨i.d, 22, none⟩ (.int .i64 x)) i { D with probe := x } := by
  have f : Fr (Only i.d) w (w.setCell ⟨i.d, 22, none⟩ (.int .i64 x)) := (Fr.refl _ _).setAt _ (Only.self _)
  have hb : Blk (w.setCell ⟨i.d, 22, none⟩ (.int .i64 x)) i.d (.cells (i.cells D.cf x) 100 (0, 0)) := by
    have := h.blk.set 22 (.int .i64 x)
    simpa [DepIds.cells] using this
  exact ⟨hb, h.brk.fr f (i.ne h.nd 1 0), h.bulk.fr f (i.ne h.nd 2 0) (i.ne h.nd 3 0) (i.ne h.nd 4 0) (i.ne h.nd 5 0), h.falls.fr f (i.ne h.nd 6 0) (i.ne h.nd 7 0), h.win.fr f (i.ne h.nd 8 0), h.hist.fr f (i.ne h.nd 9 0), h.calls.fr f (i.ne h.nd 10 0) (fun b _ e => by cases e; exact .inl (i.mem 0)), h.nd, h.typed, h.chain⟩
-- upd: end
theorem DepAt.cell (h : DepAt w i D) (k : Nat) : w.cell? ⟨i.d, k, none⟩ = (i.cells D.cf D.probe)[k]? := h.blk.cell k
theorem Fr.dep {S : Nat → Prop} (f : Fr S w w') (h : ∀ k, S k → i.S k) : Fr i.S w w' := f.mono fun k _ hk => h k hk
end

end Go.Proofs.Ythnaieeaominjaa
