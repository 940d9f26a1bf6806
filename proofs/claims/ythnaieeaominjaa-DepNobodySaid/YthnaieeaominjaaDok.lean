/-
  The exported methods of a dependency, as callers use them.
-/
import Derived.Test.YthnaieeaominjaaPlain
namespace Go.Proofs.Ythnaieeaominjaa
open Go.RowKit
set_option linter.unusedVariables false
set_option linter.unusedSimpArgs false

/-- A dependency whose calls' slices lie in memory that was there. -/
def Dok (w : World) (j : DepIds) (D : Dp) : Prop := DepAt w { j with lim := w.heap.size } D
theorem Dok.fr {S : Nat → Prop} {w w' : World} {j : DepIds} {D : Dp} (h : Dok w j D) (f : Fr S w w') (hs : ∀ k, j.S k → ¬ S k) (hx : ∀ k, k < w.heap.size → S k → j.ex k) : Dok w' j D :=
  (DepAt.fr h f hs (fun b hb e => .inr (.inl (hx b hb e)))).relim _ (Nat.le_refl _)
theorem Dok.nil {w w' : World} {j : DepIds} {D : Dp} (h : Dok w j D) (f : Fr Nil w w') : Dok w' j D := h.fr f (fun _ _ e => e) (fun _ _ e => e.elim)
theorem Dok.old {w : World} {j : DepIds} {D : Dp} (h : Dok w j D) (k : Nat) (hk : j.S k) : k < w.heap.size := DepAt.old (i := { j with lim := w.heap.size }) h k hk

def OkPost (w : World) (j : DepIds) (R : Deed × Dp × Int) (e : Ending) (w' : World) : Prop :=
  ∃ va vo, e = .returned (.tuple #[.agg #[va, vo], .int .i64 R.2.2]) ∧ RowsAt w' w.heap.size va vo R.1 ∧ Dok w' j R.2.1 ∧ Fr j.S w w'
def OkLate (w : World) (j : DepIds) (R : Deed × Dp) (e : Ending) (w' : World) : Prop :=
  ∃ va vo, e = .returned (.agg #[va, vo]) ∧ RowsAt w' w.heap.size va vo R.1 ∧ Dok w' j R.2 ∧ Fr j.S w w'
def Dp.pickRes (D : Dp) (now : Int) : Deed × Dp × Int := if D.bulk.pick.2.1 then (⟨[], [], now⟩, D.pickOf.runs [D.bulk.pick.1], 0) else (⟨[], [], now⟩, D.pickOf, 3)

section
variable (j : DepIds) (D : Dp) (now id step : Int) (ok : Bool) (w : World)
theorem ok_offer (a m : Sl) (al : List Int) (ml : List (Int × Int)) (h : Dok w j D) (hn : U64 now) (ha : Rd w (fun k => j.S k ∨ j.ex k) a 1 al.length (ints al)) (hm : Rd w (fun k => j.S k ∨ j.ex k) m 2 ml.length (pairs ml)) :
    Calls Try.prog 13 #[.pointer (some ⟨j.d, 0, none⟩), .int .u64 now, .agg #[a.val, m.val]] w (OkPost w j (D.offerOf now a m al ml)) :=
  (dep_offer { j with lim := w.heap.size } D now a m al ml w h hn ha hm).mono fun e w' ⟨va, vo, he, hr, hd, hf⟩ => ⟨va, vo, he, hr, hd, hf⟩
theorem ok_pick (h : Dok w j D) (hn : U64 now) :
    Calls Try.prog 15 #[.pointer (some ⟨j.d, 0, none⟩), .int .u64 now] w (OkPost w j (D.pickRes now)) := by
  unfold Dp.pickRes
  cases hp : D.bulk.pick.2.1
  · exact (dep_pick_none { j with lim := w.heap.size } D now w h hn hp).mono fun e w' ⟨va, vo, he, hr, hd, hf⟩ => ⟨va, vo, he, hr, hd, hf⟩
  · exact (dep_pick_some { j with lim := w.heap.size } D now w h hn hp).mono fun e w' ⟨va, vo, he, hr, hd, hf⟩ => ⟨va, vo, he, hr, hd, hf⟩
theorem ok_answer (v : Sl) (vl : List Int) (h : Dok w j D) (hn : U64 now) (hv : Rd w (fun k => j.S k ∨ j.ex k) v 1 vl.length (ints vl)) :
    Calls Try.prog 16 #[.pointer (some ⟨j.d, 0, none⟩), .int .u64 now, .int .i64 id, .bool ok, v.val] w (OkPost w j (D.answerOf now id ok vl)) :=
  (dep_answer { j with lim := w.heap.size } D now id ok v vl w h hn hv).mono fun e w' ⟨va, vo, he, hr, hd, hf⟩ => ⟨va, vo, he, hr, hd, hf⟩
theorem ok_fallback (v : Sl) (vl : List Int) (h : Dok w j D) (hn : U64 now) (hv : Rd w (fun k => j.S k ∨ j.ex k) v 1 vl.length (ints vl)) :
    Calls Try.prog 17 #[.pointer (some ⟨j.d, 0, none⟩), .int .u64 now, .int .i64 id, .int .i64 step, .bool ok, v.val] w (OkPost w j (D.fallbackOf now id step ok vl)) :=
  (dep_fallback { j with lim := w.heap.size } D now id step ok v vl w h hn hv).mono fun e w' ⟨va, vo, he, hr, hd, hf⟩ => ⟨va, vo, he, hr, hd, hf⟩
theorem ok_late (h : Dok w j D) (hn : U64 now) :
    Calls Try.prog 18 #[.pointer (some ⟨j.d, 0, none⟩), .int .u64 now, .int .i64 id] w (OkLate w j (D.lateOf now id)) :=
  (dep_late { j with lim := w.heap.size } D now id w h hn).mono fun e w' ⟨va, vo, he, hr, hd, hf⟩ => ⟨va, vo, he, hr, hd, hf⟩
theorem ok_knows (h : Dok w j D) :
    Calls Try.prog 19 #[.pointer (some ⟨j.d, 0, none⟩), .int .i64 id] w fun e w' => e = .returned (.bool (D.knows id)) ∧ Fr Nil w w' :=
  dep_knows { j with lim := w.heap.size } D id w h
def OkSnap (w : World) (j : DepIds) (D : Dp) (now : Int) (e : Ending) (w' : World) : Prop :=
  ∃ n0 n1 n2 n3 n4 a b c d e5 half all : Int, [n0, n1, n2, n3, n4] = D.snap now ∧ [a, b, c, d, e5] = D.win.counts now ∧ (∀ y ∈ [a, b, c, d, e5], U64 y) ∧
    e = .returned (.agg #[.int .i64 n0, .int .i64 n1, .int .i64 n2, .int .i64 n3, .int .i64 n4, .int .u64 a, .int .u64 b, .int .u64 c, .int .u64 d, .int .u64 e5, .int .u64 half, .int .u64 all]) ∧ Dok w' j (D.seen now) ∧ Fr j.S w w'
theorem ok_snap (h : Dok w j D) (hn : U64 now) :
    Calls Try.prog 11 #[.pointer (some ⟨j.d, 0, none⟩), .int .u64 now] w (OkSnap w j D now) :=
  (dep_snap { j with lim := w.heap.size } D now w h hn).mono fun e w' ⟨half, all, _, _, he, hd, hf⟩ => by
    obtain ⟨a, b, c, d, e5, hc, hu⟩ := counts_five (g := D.win) hd.win
    rw [hc] at he
    exact ⟨_, _, _, _, _, a, b, c, d, e5, half, all, rfl, hc.symm, hu, he, hd, hf⟩
def OkNew (w : World) (c : Cf) (X : Nat → Prop) (e : Ending) (w' : World) : Prop :=
  ∃ j : DepIds, j.ex = X ∧ e = .returned (.pointer (some ⟨j.d, 0, none⟩)) ∧ Dok w' j (Dp.new c) ∧ (∀ k, j.S k → w.heap.size ≤ k) ∧ Fr Nil w w'
theorem ok_new (c : Cf) (X : Nat → Prop) (ht : c.Typed) (hg : c.good = true) : Calls Try.prog 8 #[c.val] w (OkNew w c X) :=
  (dep_new c w ht hg).mono fun e w' ⟨i, he, hd, hS, hf⟩ => ⟨{ i with ex := X }, rfl, he, hd _ X, hS, hf⟩
end

theorem own_one {w : World} {B e size : Nat} {v : Value} {xs : List Value} (h : w.ownsRow B e size v 1 xs) : ∃ g c, v = .slice (some ⟨g, 0, none⟩) 1 c ∧ B ≤ g ∧ g < w.heap.size ∧ ∀ j u, xs[j]? = some u → w.cell? ⟨g, j, none⟩ = some u := by
  rcases h.2 with ⟨rfl, h2⟩ | ⟨g, cap, cur, rfl, hb, hh, -⟩
  · omega
  · exact ⟨g, cap, rfl, hb, (Array.getElem?_eq_some_iff.1 hh).1, fun j u hj => own_cells h rfl j u hj⟩
theorem own_len {w : World} {B e size n : Nat} {v : Value} {xs : List Value} (h : w.ownsRow B e size v n xs) : ∃ A c, v = .slice A n c := own_shape h

end Go.Proofs.Ythnaieeaominjaa
