/-
  Words for all walks of this seat: a block of memory as a whole, frames, bounds. No program stands here.
-/
import Derived.WalkKit
import Derived.Deep.QuietTactic
import Derived.BigQuiet
import Derived.StillTailTactics
import Derived.WalkLawsBesides
import Derived.WalkSpells
import Derived.Outline
namespace Go.Proofs.Ythnaieeaominjaa
open Go.RowKit
set_option linter.unusedVariables false
set_option linter.unusedSimpArgs false

/-- Bounds of the two kinds of integers, behind names. -/
def U64 (x : Int) : Prop := 0 ≤ x ∧ x ≤ 18446744073709551615
def I64 (x : Int) : Prop := -9223372036854775808 ≤ x ∧ x ≤ 9223372036854775807

theorem ret_int {k : IntKind} {a b : Int} (h : a = b) : Ending.returned (.int k a) = .returned (.int k b) := by rw [h]
theorem ret_bool {a b : Bool} (h : a = b) : Ending.returned (.bool a) = .returned (.bool b) := by rw [h]

/-- The block p holds the object o. -/
def Blk (w : World) (p : Nat) (o : Obj) : Prop := w.heap[p]? = some o

theorem Blk.lt {w : World} {p : Nat} {o : Obj} (h : Blk w p o) : p < w.heap.size := (Array.getElem?_eq_some_iff.1 h).1
theorem Blk.drewN {w : World} {p : Nat} {o : Obj} (h : Blk w p o) (n : Nat) : Blk (w.drewN n) p o := h
theorem Blk.drew {w : World} {p : Nat} {o : Obj} (h : Blk w p o) : Blk w.drew p o := h
theorem Blk.alloc {w : World} {p : Nat} {o : Obj} (h : Blk w p o) (o' : Obj) : Blk (w.alloc o') p o := by
  unfold Blk at *; rw [Below.heap_alloc w o' p (Array.getElem?_eq_some_iff.1 h).1]; exact h
theorem Blk.new (w : World) (o : Obj) : Blk (w.alloc o) w.heap.size o := heap_alloc_new w o
theorem Blk.cell {w : World} {p : Nat} {c : Array Value} {T : TypeId} {z : Nat × Nat} (h : Blk w p (.cells c T z)) (i : Nat) : w.cell? ⟨p, i, none⟩ = c[i]? := by
  unfold Blk at h; simp [World.cell?, h]
theorem Blk.free {w : World} {p : Nat} {c : Array Value} {T : TypeId} (h : Blk w p (.cells c T (0, 0))) (i : Nat) : w.frozen? ⟨p, i, none⟩ = false := by
  unfold Blk at h; simp [World.frozen?, h]
theorem heap_setCell_ne (w : World) (a : Addr) (v : Value) (p : Nat) (h : p ≠ a.block) : (w.setCell a v).heap[p]? = w.heap[p]? := by
  simp only [World.setCell, Array.getElem?_modify]
  rw [if_neg (by omega)]
theorem Blk.set_ne {w : World} {p : Nat} {o : Obj} (h : Blk w p o) {a : Addr} (v : Value) (hne : p ≠ a.block) : Blk (w.setCell a v) p o := by
  unfold Blk at *; rw [heap_setCell_ne w a v p hne]; exact h
theorem Blk.set {w : World} {p : Nat} {c : Array Value} {T : TypeId} {z : Nat × Nat} (h : Blk w p (.cells c T z)) (i : Nat) (v : Value) :
    Blk (w.setCell ⟨p, i, none⟩ v) p (.cells (c.setIfInBounds i v) T z) := by
  unfold Blk at *
  simp only [World.setCell, Array.getElem?_modify, h]
  simp

/-- What was there when w began is as it was in w', but for the blocks of S. -/
structure Fr (S : Nat → Prop) (w w' : World) : Prop where
  os : w'.os = w.os
  tape : w'.tape = w.tape
  output : w'.output = w.output
  size : w.heap.size ≤ w'.heap.size
  block : ∀ k, k < w.heap.size → ¬ S k → w'.heap[k]? = w.heap[k]?

def Nil : Nat → Prop := fun _ => False
def Only (b : Nat) : Nat → Prop := fun k => k = b

theorem Fr.refl (S : Nat → Prop) (w : World) : Fr S w w := ⟨rfl, rfl, rfl, Nat.le_refl _, fun _ _ _ => rfl⟩
theorem Fr.step {S S' : Nat → Prop} {a b c : World} (h : Fr S a b) (k : Fr S' b c) (hs : ∀ j, j < a.heap.size → S' j → S j) : Fr S a c :=
  ⟨k.os.trans h.os, k.tape.trans h.tape, k.output.trans h.output, Nat.le_trans h.size k.size,
    fun i hi hn => (k.block i (Nat.lt_of_lt_of_le hi h.size) (fun x => hn (hs i hi x))).trans (h.block i hi hn)⟩
theorem Fr.trans {S : Nat → Prop} {a b c : World} (h : Fr S a b) (k : Fr S b c) : Fr S a c := h.step k (fun _ _ x => x)
theorem Fr.mono {S S' : Nat → Prop} {a b : World} (h : Fr S a b) (hs : ∀ j, j < a.heap.size → S j → S' j) : Fr S' a b :=
  ⟨h.os, h.tape, h.output, h.size, fun i hi hn => h.block i hi (fun x => hn (hs i hi x))⟩
theorem Fr.drewN {S : Nat → Prop} {a b : World} (h : Fr S a b) (n : Nat) : Fr S a (b.drewN n) := ⟨h.os, h.tape, h.output, h.size, h.block⟩
theorem Fr.drew {S : Nat → Prop} {a b : World} (h : Fr S a b) : Fr S a b.drew := ⟨h.os, h.tape, h.output, h.size, h.block⟩
theorem Fr.alloc {S : Nat → Prop} {a b : World} (h : Fr S a b) (o : Obj) : Fr S a (b.alloc o) :=
  h.trans ⟨rfl, rfl, rfl, by simp, fun k hk _ => Below.heap_alloc _ _ k hk⟩
theorem Fr.setCell {S : Nat → Prop} {a b : World} (h : Fr S a b) {p : Addr} (v : Value) (hp : p.block < a.heap.size → S p.block) : Fr S a (b.setCell p v) :=
  ⟨h.os, h.tape, h.output, by simpa using h.size, fun k hk hn => by
    rw [heap_setCell_ne b p v k (fun e => hn (e ▸ hp (e ▸ hk)))]; exact h.block k hk hn⟩
theorem Fr.setAt {S : Nat → Prop} {a b : World} (h : Fr S a b) {p i : Nat} (v : Value) (hp : S p) : Fr S a (b.setCell ⟨p, i, none⟩ v) := h.setCell v (fun _ => hp)
theorem Fr.setNew {S : Nat → Prop} {a b : World} (h : Fr S a b) {p i : Nat} (v : Value) (hp : a.heap.size ≤ p) : Fr S a (b.setCell ⟨p, i, none⟩ v) := h.setCell v (fun x => absurd x (Nat.not_lt.2 hp))
theorem Only.self (p : Nat) : Only p p := rfl
theorem Fr.grown {S : Nat → Prop} {a b c : World} {row : Option Nat} (h : Fr S a b) (hg : b.grownBy c row) (hr : ∀ k, row = some k → a.heap.size ≤ k ∨ S k) : Fr S a c :=
  h.step (S' := fun k => row = some k) ⟨hg.os, hg.tape, hg.output, hg.size, fun k hk hn => hg.block k hk (fun e => hn e.symm)⟩ (fun j hj e => (hr j e).resolve_left (Nat.not_le.2 hj))
theorem Fr.below {w w' : World} (h : Fr Nil w w') : Below w.heap.size w w' := ⟨h.os, h.tape, h.output, h.size, fun k hk => h.block k hk (fun x => x)⟩
theorem Fr.of_below {S : Nat → Prop} {w w' : World} (h : Below w.heap.size w w') : Fr S w w' := ⟨h.os, h.tape, h.output, h.size, fun k hk _ => h.block k hk⟩
theorem Blk.fr {S : Nat → Prop} {w w' : World} {p : Nat} {o : Obj} (h : Blk w p o) (f : Fr S w w') (hp : ¬ S p) : Blk w' p o := by
  unfold Blk at *; rw [f.block p (Array.getElem?_eq_some_iff.1 h).1 hp]; exact h
theorem Fr.of_drewN {S : Nat → Prop} {w w' : World} (h : ∃ m, w' = w.drewN m) : Fr S w w' := by
  obtain ⟨m, rfl⟩ := h; exact (Fr.refl S w).drewN m

/-- A walk's end: the world is as it was, but for draws. -/
def Quiet (w w' : World) : Prop := ∃ m, w' = w.drewN m
theorem Quiet.refl (w : World) : Quiet w w := ⟨0, rfl⟩
theorem Quiet.of (w : World) (n : Nat) : Quiet w (w.drewN n) := ⟨n, rfl⟩

/-- The block that was laid last, behind a draw. -/
theorem drew_new (w : World) (o : Obj) (n : Nat) (hn : n = w.heap.size) : (w.alloc o).drew.heap[n]? = some o := by subst hn; exact heap_alloc_new w o
theorem alloc_new (w : World) (o : Obj) (n : Nat) (hn : n = w.heap.size) : (w.alloc o).heap[n]? = some o := by subst hn; exact heap_alloc_new w o
theorem own_ne_old {w : World} {base e size n k : Nat} {v : Value} {xs : List Value} (h : w.ownsRow base e size v n xs) (hk : k < base) : v.ownBlock ≠ some k := fun e => absurd (h.lt k e).1 (Nat.not_le.2 hk)
theorem own_ne_new {w : World} {base e size n k : Nat} {v : Value} {xs : List Value} (h : w.ownsRow base e size v n xs) (hk : w.heap.size ≤ k) : v.ownBlock ≠ some k := fun e => absurd (h.lt k e).2 (Nat.not_lt.2 hk)

theorem ownsRow_base {w : World} {base base' e size n : Nat} {v : Value} {xs : List Value} (h : w.ownsRow base e size v n xs) (hb : base' ≤ base) : w.ownsRow base' e size v n xs := by
  refine ⟨h.1, ?_⟩
  rcases h.2 with h | ⟨g, cap, cur, hv, hg, r⟩
  · exact .inl h
  · exact .inr ⟨g, cap, cur, hv, Nat.le_trans hb hg, r⟩
theorem ownsRow_fr {S : Nat → Prop} {w w' : World} {base e size n : Nat} {v : Value} {xs : List Value} (h : w.ownsRow base e size v n xs) (f : Fr S w w') (hs : ∀ k, base ≤ k → k < w.heap.size → ¬ S k) : w'.ownsRow base e size v n xs := by
  refine ⟨h.1, ?_⟩
  rcases h.2 with h | ⟨g, cap, cur, hv, hg, hh, r⟩
  · exact .inl h
  · have hlt := (Array.getElem?_eq_some_iff.1 hh).1
    exact .inr ⟨g, cap, cur, hv, hg, (f.block g hlt (hs g hg hlt)).trans hh, r⟩
theorem Blk.grown {w w' : World} {p : Nat} {o : Obj} {row : Option Nat} (h : Blk w p o) (g : w.grownBy w' row) (hp : row ≠ some p) : Blk w' p o := by
  unfold Blk at *; rw [g.block p (Array.getElem?_eq_some_iff.1 h).1 (Ne.symm hp)]; exact h

/-- A slice as it is handed on: where it begins, its length, its capacity. -/
structure Sl where
  at_ : Option Addr
  len : Nat
  cap : Nat
def Sl.val (s : Sl) : Value := .slice s.at_ s.len s.cap

/-- A slice's n elements (size cells each) read as the cells cs, in memory that M does not hold. -/
def Rd (w : World) (M : Nat → Prop) (s : Sl) (size n : Nat) (cs : List Value) : Prop :=
  s.len = n ∧ n ≤ s.cap ∧ n ≤ 1000000 ∧ cs.length = n * size ∧
    (n = 0 ∨ ∃ b off, s.at_ = some ⟨b, off, none⟩ ∧ ¬ M b ∧ b < w.heap.size ∧ ∀ j v, cs[j]? = some v → w.cell? ⟨b, off + j, none⟩ = some v)

theorem cell_fr {S : Nat → Prop} {w w' : World} {b o : Nat} (f : Fr S w w') (hb : b < w.heap.size) (hs : ¬ S b) : w'.cell? ⟨b, o, none⟩ = w.cell? ⟨b, o, none⟩ :=
  World.cell?_of_block (f.block b hb hs)

theorem Rd.fr {S M : Nat → Prop} {w w' : World} {s : Sl} {size n : Nat} {cs : List Value} (h : Rd w M s size n cs) (f : Fr S w w') (hs : ∀ b, b < w.heap.size → S b → M b) : Rd w' M s size n cs := by
  refine ⟨h.1, h.2.1, h.2.2.1, h.2.2.2.1, ?_⟩
  rcases h.2.2.2.2 with h0 | ⟨b, off, ha, hm, hb, hc⟩
  · exact .inl h0
  · exact .inr ⟨b, off, ha, hm, Nat.lt_of_lt_of_le hb f.size, fun j v hj => by rw [cell_fr f hb (fun x => hm (hs b hb x))]; exact hc j v hj⟩
theorem Rd.mono {M M' : Nat → Prop} {w : World} {s : Sl} {size n : Nat} {cs : List Value} (h : Rd w M s size n cs) (hm : ∀ b, b < w.heap.size → M' b → M b) : Rd w M' s size n cs := by
  refine ⟨h.1, h.2.1, h.2.2.1, h.2.2.2.1, ?_⟩
  rcases h.2.2.2.2 with h0 | ⟨b, off, ha, hn, hb, hc⟩
  · exact .inl h0
  · exact .inr ⟨b, off, ha, fun x => hn (hm b hb x), hb, hc⟩

def ints (l : List Int) : List Value := l.map (Value.int .i64)
def pairs (l : List (Int × Int)) : List Value := l.flatMap fun p => [.int .i64 p.1, .int .i64 p.2]
theorem ints_length (l : List Int) : (ints l).length = l.length := by simp [ints]
theorem pairs_length (l : List (Int × Int)) : (pairs l).length = l.length * 2 := by induction l with | nil => rfl | cons p l ih => simp [pairs] at *; omega
theorem ints_get (l : List Int) (k : Nat) (h : k < l.length) : (ints l)[k]? = some (.int .i64 l[k]) := by simp [ints, h]
theorem pairs_get (l : List (Int × Int)) : ∀ (k : Nat) (h : k < l.length), (pairs l)[k * 2]? = some (.int .i64 l[k].1) ∧ (pairs l)[k * 2 + 1]? = some (.int .i64 l[k].2) := by
  induction l with
  | nil => intro k h; simp at h
  | cons p l ih =>
    intro k h
    cases k with
    | zero => simp [pairs]
    | succ k =>
      have := ih k (by simpa using h)
      simpa [pairs, Nat.add_mul, Nat.add_assoc] using this

end Go.Proofs.Ythnaieeaominjaa
