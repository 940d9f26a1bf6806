/-
  Eight buckets of numbers in one block, and three numbers behind them: what packages window and hist keep. No program stands here.
-/
import Derived.Test.YthnaieeaominjaaBase
import Derived.Test.YthnaieeaominjaaSat
import Derived.Laws.CopyRow
namespace Go.Proofs.Ythnaieeaominjaa
open Go.RowKit
set_option linter.unusedVariables false
set_option linter.unusedSimpArgs false

/-- A store whose run is known. -/
theorem wpList_store {P : Program} {ops : Array Oper} {Q : Exit → Act → World → Prop} {rest : List Oper} {T ty : TypeId} {x y : Operand} {pos : String} {after : Array Edge} {a : Act} {w w' : World} {ad v : Value}
    (hx : a.eval x = ad) (hy : a.eval y = v) (hrun : (Instr.storeAt T ad v).run P w = .ok () w') (h : wpList P ops Q rest a w') : wpList P ops Q (⟨none, .store T x y, ty, pos, after, none⟩ :: rest) a w := by
  refine wpList_plain rfl fun K hK => ?_
  subst hx hy
  simp only [Oper.wp, Oper.upon, execOp, Sem.run_bind, hrun, Result.andThen, Sem.run_pure]
  exact hK _ _ h
/-- A load whose run is known. -/
theorem wpList_loaded {P : Program} {ops : Array Oper} {Q : Exit → Act → World → Prop} {rest : List Oper} {T ty : TypeId} {x : Operand} {d : Tmp} {pos : String} {after : Array Edge} {a : Act} {w : World} {ad v : Value}
    (hx : a.eval x = ad) (hrun : (Instr.loadAt T ad).run P w = .ok v w) (h : wpList P ops Q rest (a.put (some d) v) w) : wpList P ops Q (⟨some d, .load T x, ty, pos, after, none⟩ :: rest) a w := by
  refine wpList_plain rfl fun K hK => ?_
  subst hx
  simp only [Oper.wp, Oper.upon, execOp, Sem.run_bind, hrun, Result.andThen, Sem.run_pure]
  exact hK _ _ h

def u64s (l : List Int) : List Value := l.map (Value.int .u64)

theorem flatten_get {α : Type} {s : Nat} : ∀ (l : List (List α)), (∀ x ∈ l, x.length = s) → ∀ (i j : Nat) (hi : i < l.length), j < s → l.flatten[i * s + j]? = (l[i])[j]?
  | [], _, i, j, hi, _ => absurd hi (Nat.not_lt_zero _)
  | x :: l, h, 0, j, _, hj => by
    have hx := h x (by simp)
    simp [List.getElem?_append_left (show j < x.length by omega)]
  | x :: l, h, i + 1, j, hi, hj => by
    have hx := h x (by simp)
    have := flatten_get l (fun y hy => h y (by simp [hy])) i j (by simpa using hi) hj
    rw [List.flatten_cons, List.getElem?_append_right (by rw [hx, Nat.add_mul]; omega), hx, Nat.add_mul, Nat.one_mul, show i * s + s + j - s = i * s + j by omega, this]
    rfl
theorem flatten_length {α : Type} {s : Nat} : ∀ (l : List (List α)), (∀ x ∈ l, x.length = s) → l.flatten.length = l.length * s
  | [], _ => by simp
  | x :: l, h => by
    have hx := h x (by simp)
    have := flatten_length l (fun y hy => h y (by simp [hy]))
    rw [List.flatten_cons, List.length_append, this, hx, List.length_cons, Nat.add_mul]; omega
theorem flatten_set {α : Type} {s : Nat} : ∀ (l : List (List α)), (∀ x ∈ l, x.length = s) → ∀ (i j : Nat) (v : α) (hi : i < l.length), j < s → l.flatten.set (i * s + j) v = (l.set i ((l[i]).set j v)).flatten
  | [], _, i, j, v, hi, _ => absurd hi (Nat.not_lt_zero _)
  | x :: l, h, 0, j, v, _, hj => by
    have hx := h x (by simp)
    simp [List.set_append_left _ _ (show j < x.length by omega)]
  | x :: l, h, i + 1, j, v, hi, hj => by
    have hx := h x (by simp)
    have := flatten_set l (fun y hy => h y (by simp [hy])) i j v (by simpa using hi) hj
    rw [List.flatten_cons, List.set_append_right _ _ (by rw [hx, Nat.add_mul]; omega), hx, Nat.add_mul, Nat.one_mul, show i * s + s + j - s = i * s + j by omega, this]
    rfl
theorem flatten_row {α : Type} {s : Nat} : ∀ (l : List (List α)), (∀ x ∈ l, x.length = s) → ∀ (i : Nat) (r : List α) (hi : i < l.length), r.length = s →
    l.flatten.take (i * s) ++ r ++ l.flatten.drop (i * s + s) = (l.set i r).flatten
  | [], _, i, r, hi, _ => absurd hi (Nat.not_lt_zero _)
  | x :: l, h, 0, r, _, hr => by
    have hx := h x (by simp)
    simp [← hx]
  | x :: l, h, i + 1, r, hi, hr => by
    have hx := h x (by simp)
    have := flatten_row l (fun y hy => h y (by simp [hy])) i r (by simpa using hi) hr
    have e : (i + 1) * s = x.length + i * s := by rw [hx, Nat.add_mul]; omega
    rw [List.flatten_cons, e, List.take_length_add_append, show x.length + i * s + s = x.length + (i * s + s) by omega, List.drop_length_add_append]
    simp only [List.set_cons_succ, List.flatten_cons]
    rw [← this]
    simp

structure Grid where
  all : List (List Int)
  n : Nat
  width : Int
  now : Int
deriving DecidableEq

def Grid.cells (g : Grid) : List Value := u64s g.all.flatten ++ [.int .u64 g.n, .int .u64 g.width, .int .u64 g.now]
structure Grid.Fine (s : Nat) (g : Grid) : Prop where
  eight : g.all.length = 8
  size : ∀ x ∈ g.all, x.length = s
  u64 : ∀ x ∈ g.all, ∀ y ∈ x, U64 y
  n1 : 1 ≤ g.n
  n8 : g.n ≤ 8
  w1 : 1 ≤ g.width
  w2 : g.width ≤ 1099511627776
  now : U64 g.now

def GridAt (s T : Nat) (w : World) (p : Nat) (g : Grid) : Prop := Blk w p (.cells g.cells.toArray T (0, 0)) ∧ g.Fine s

section
variable {s T p : Nat} {w : World} {g : Grid}

theorem GridAt.fr {S : Nat → Prop} {w' : World} (h : GridAt s T w p g) (f : Fr S w w') (hp : ¬ S p) : GridAt s T w' p g := ⟨h.1.fr f hp, h.2⟩
theorem GridAt.drewN (h : GridAt s T w p g) (n : Nat) : GridAt s T (w.drewN n) p g := h
theorem GridAt.len (h : GridAt s T w p g) : (u64s g.all.flatten).length = 8 * s := by
  rw [u64s, List.length_map, flatten_length g.all h.2.size, h.2.eight]
theorem GridAt.tail (h : GridAt s T w p g) : w.cell? ⟨p, 8 * s, none⟩ = some (.int .u64 g.n) ∧ w.cell? ⟨p, 8 * s + 1, none⟩ = some (.int .u64 g.width) ∧ w.cell? ⟨p, 8 * s + 2, none⟩ = some (.int .u64 g.now) := by
  have hl := h.len
  refine ⟨?_, ?_, ?_⟩ <;> rw [h.1.cell] <;> simp only [Grid.cells, List.getElem?_toArray] <;> rw [List.getElem?_append_right (by omega), hl]
  · simp
  · simp [show 8 * s + 1 - 8 * s = 1 by omega]
  · simp [show 8 * s + 2 - 8 * s = 2 by omega]
theorem Grid.Fine.row (h : g.Fine s) {i : Nat} (hi : i < 8) : (g.all.getD i []).length = s := by
  have : i < g.all.length := by rw [h.eight]; exact hi
  rw [show g.all.getD i [] = g.all[i] by simp [List.getD, this]]
  exact h.size _ (List.getElem_mem this)
theorem GridAt.elem (h : GridAt s T w p g) {i j : Nat} (hi : i < 8) (hj : j < s) : w.cell? ⟨p, i * s + j, none⟩ = some (.int .u64 ((g.all.getD i []).getD j 0)) := by
  have hl := h.len
  have hi' : i < g.all.length := by rw [h.2.eight]; exact hi
  have hlt : i * s + j < 8 * s := by
    have : (i + 1) * s ≤ 8 * s := Nat.mul_le_mul_right _ hi
    rw [Nat.add_mul] at this; omega
  have hr := h.2.row hi
  rw [h.1.cell]
  simp only [Grid.cells, List.getElem?_toArray]
  rw [List.getElem?_append_left (by omega)]
  simp only [u64s, List.getElem?_map]
  rw [flatten_get g.all h.2.size i j hi' hj]
  have e : g.all.getD i [] = g.all[i] := by simp [List.getD, hi']
  rw [e] at hr ⊢
  simp [List.getD, show j < (g.all[i]).length by omega]
theorem Grid.Fine.get (h : g.Fine s) {i j : Nat} (hi : i < 8) (hj : j < s) : U64 ((g.all.getD i []).getD j 0) := by
  have hr := h.row hi
  have hi' : i < g.all.length := by rw [h.eight]; exact hi
  have e : g.all.getD i [] = g.all[i] := by simp [List.getD, hi']
  rw [e] at hr ⊢
  have e2 : (g.all[i]).getD j 0 = (g.all[i])[j] := by simp [List.getD, show j < (g.all[i]).length by omega]
  rw [e2]
  exact h.u64 _ (List.getElem_mem hi') _ (List.getElem_mem _)

def Grid.setRow (g : Grid) (i : Nat) (r : List Int) : Grid := { g with all := g.all.set i r }
def Grid.setCell (g : Grid) (i j : Nat) (v : Int) : Grid := g.setRow i ((g.all.getD i []).set j v)

theorem Grid.Fine.setRow (h : g.Fine s) {i : Nat} {r : List Int} (hr : r.length = s) (hu : ∀ y ∈ r, U64 y) : (g.setRow i r).Fine s where
  eight := by simp [Grid.setRow, h.eight]
  size x hx := by rcases List.mem_or_eq_of_mem_set hx with h1 | rfl; exact h.size x h1; exact hr
  u64 x hx := by rcases List.mem_or_eq_of_mem_set hx with h1 | rfl; exact h.u64 x h1; exact hu
  n1 := h.n1
  n8 := h.n8
  w1 := h.w1
  w2 := h.w2
  now := h.now
theorem GridAt.set_cell (h : GridAt s T w p g) {i j : Nat} (hi : i < 8) (hj : j < s) {v : Int} (hv : U64 v) : GridAt s T (w.setCell ⟨p, i * s + j, none⟩ (.int .u64 v)) p (g.setCell i j v) := by
  have hl := h.len
  have hi' : i < g.all.length := by rw [h.2.eight]; exact hi
  have hlt : i * s + j < 8 * s := by
    have : (i + 1) * s ≤ 8 * s := Nat.mul_le_mul_right _ hi
    rw [Nat.add_mul] at this; omega
  have e : g.all.getD i [] = g.all[i] := by simp [List.getD, hi']
  refine ⟨?_, h.2.setRow (by rw [List.length_set]; exact h.2.row hi) ?_⟩
  · have hb := h.1.set (i * s + j) (.int .u64 v)
    have e2 : (g.cells.toArray.setIfInBounds (i * s + j) (.int .u64 v)) = (Grid.cells (g.setCell i j v)).toArray := by
      simp only [Grid.cells, List.setIfInBounds_toArray, Grid.setCell, Grid.setRow]
      rw [List.set_append_left _ _ (by omega), e, ← flatten_set g.all h.2.size i j v hi' hj]
      simp [u64s, List.map_set]
    rw [e2] at hb
    exact hb
  · intro y hy
    rcases List.mem_or_eq_of_mem_set hy with h1 | rfl
    · rw [e] at h1; exact h.2.u64 _ (List.getElem_mem hi') _ h1
    · exact hv
theorem GridAt.set_now (h : GridAt s T w p g) {x : Int} (hx : U64 x) : GridAt s T (w.setCell ⟨p, 8 * s + 2, none⟩ (.int .u64 x)) p { g with now := x } := by
  have hl := h.len
  refine ⟨?_, ⟨h.2.eight, h.2.size, h.2.u64, h.2.n1, h.2.n8, h.2.w1, h.2.w2, hx⟩⟩
  have hb := h.1.set (8 * s + 2) (.int .u64 x)
  have e2 : (g.cells.toArray.setIfInBounds (8 * s + 2) (.int .u64 x)) = (Grid.cells { g with now := x }).toArray := by
    simp only [Grid.cells, List.setIfInBounds_toArray]
    rw [List.set_append_right _ _ (by omega), hl, show 8 * s + 2 - 8 * s = 2 by omega]; rfl
  rw [e2] at hb
  exact hb
/-- What a whole bucket's store comes to. -/
theorem GridAt.store (h : GridAt s T w p g) {i : Nat} (hi : i < 8) {r : List Int} (hr : r.length = s) (hu : ∀ y ∈ r, U64 y) :
    ∃ cs, GridAt s T (w.setRow p cs) p (g.setRow i r) ∧ Fr (Only p) w (w.setRow p cs) ∧ ∀ (P : Program) (B : TypeId), (P.info? B).map (·.size) = some s → ∀ n,
      (Instr.storeAt B (.pointer (some ⟨p, i * s, none⟩)) (.agg (u64s r).toArray)).run P (w.drewN n) = .ok () ((w.setRow p cs).drewN n) := by
  have hl := h.len
  have hi' : i < g.all.length := by rw [h.2.eight]; exact hi
  have hlt : i * s + s ≤ 8 * s := by
    have : (i + 1) * s ≤ 8 * s := Nat.mul_le_mul_right _ hi
    rw [Nat.add_mul] at this; omega
  have hrl : (u64s r).length = s := by simp [u64s, hr]
  have hcells : (g.cells.take (i * s) ++ u64s r ++ g.cells.drop (i * s + s)) = (g.setRow i r).cells := by
    simp only [Grid.cells, Grid.setRow]
    rw [List.take_append_of_le_length (by omega), List.drop_append_of_le_length (by omega), ← List.append_assoc]
    congr 1
    have := flatten_row g.all h.2.size i r hi' hr
    rw [← this]
    simp [u64s, List.map_take, List.map_drop]
  refine ⟨(g.setRow i r).cells.toArray, ⟨setRow_heap w p _ _ T (0, 0) h.1, h.2.setRow hr hu⟩, ⟨rfl, rfl, rfl, by simp [World.setRow], fun k hk hn => ?_⟩, fun P B hB n => ?_⟩
  · simp only [World.setRow, Array.getElem?_modify]
    rw [if_neg (fun e => hn e.symm)]
  · have hrun := run_storeCells_at P p (i * s) T (u64s r) 0 g.cells.toArray (w.drewN n) h.1 (by simp [Grid.cells, hrl, hl]; omega) (fun v hv => by
      simp only [u64s, List.mem_map] at hv
      obtain ⟨y, -, rfl⟩ := hv
      rfl)
    simp only [Nat.add_zero, hrl, List.toList_toArray] at hrun
    rw [hcells] at hrun
    cases hq : P.info? B with
    | none => simp [hq] at hB
    | some bi =>
      simp only [hq, Option.map_some, Option.some.injEq] at hB
      simp [Instr.storeAt, Instr.sureAddr, storeVar, sizeOf, typeInfo, hq, hB, hrl, Value.cells]
      exact hrun
end

end Go.Proofs.Ythnaieeaominjaa
