/-
  Package ring: a queue of numbers, in an array of eight.
-/
import Derived.Test.YthnaieeaominjaaMap
import Derived.Test.YthnaieeaominjaaSat
import Derived.Deep.AppendLies
namespace Go.Proofs.Ythnaieeaominjaa
open Go.RowKit
set_option linter.unusedVariables false
set_option linter.unusedSimpArgs false

/-- The cells of a ring, as they lie. -/
structure RawRing where
  all : List Int
  from_ : Nat
  n : Nat
  most : Int

def RawRing.cells (r : RawRing) : List Value := r.all.map (Value.int .i64) ++ [.int .i64 r.from_, .int .i64 r.n, .int .i64 r.most]
def RawRing.fine (r : RawRing) : Prop := r.all.length = 8 ∧ r.from_ < 8 ∧ r.n ≤ 8 ∧ (r.n : Int) ≤ r.most ∧ r.most ≤ 8

def RawAt (w : World) (p : Nat) (r : RawRing) : Prop := Blk w p (.cells r.cells.toArray 190 (0, 0)) ∧ r.fine

theorem RawAt.fr {S : Nat → Prop} {w w' : World} {p : Nat} {r : RawRing} (h : RawAt w p r) (f : Fr S w w') (hp : ¬ S p) : RawAt w' p r := ⟨h.1.fr f hp, h.2⟩
theorem RawAt.drewN {w : World} {p : Nat} {r : RawRing} (h : RawAt w p r) (n : Nat) : RawAt (w.drewN n) p r := h
theorem RawAt.cells {w : World} {p : Nat} {r : RawRing} (h : RawAt w p r) :
    w.cell? ⟨p, 8, none⟩ = some (.int .i64 r.from_) ∧ w.cell? ⟨p, 9, none⟩ = some (.int .i64 r.n) ∧ w.cell? ⟨p, 10, none⟩ = some (.int .i64 r.most) := by
  have hl : (r.all.map (Value.int .i64)).length = 8 := by simpa using h.2.1
  refine ⟨?_, ?_, ?_⟩ <;> rw [h.1.cell] <;> simp only [RawRing.cells, List.getElem?_toArray] <;> rw [List.getElem?_append_right (by omega), hl] <;> rfl
theorem RawAt.elem {w : World} {p : Nat} {r : RawRing} (h : RawAt w p r) (i : Nat) (hi : i < 8) : w.cell? ⟨p, i, none⟩ = some (.int .i64 (r.all.getD i 0)) := by
  have hl := h.2.1
  rw [h.1.cell]
  simp only [RawRing.cells, List.getElem?_toArray]
  rw [List.getElem?_append_left (by simp; omega)]
  simp [List.getD, show i < r.all.length by omega]
theorem RawAt.free {w : World} {p : Nat} {r : RawRing} (h : RawAt w p r) (i : Nat) : w.frozen? ⟨p, i, none⟩ = false := h.1.free i
theorem RawAt.set_elem {w : World} {p : Nat} {r : RawRing} (h : RawAt w p r) (i : Nat) (hi : i < 8) (x : Int) : RawAt (w.setCell ⟨p, i, none⟩ (.int .i64 x)) p { r with all := r.all.set i x } := by
  refine ⟨?_, by simpa using h.2.1, h.2.2⟩
  have hb := h.1.set i (.int .i64 x)
  have hl := h.2.1
  have e : (r.cells.toArray.setIfInBounds i (.int .i64 x)) = (RawRing.cells { r with all := r.all.set i x }).toArray := by
    simp only [RawRing.cells, List.setIfInBounds_toArray]
    rw [List.set_append_left _ _ (by simp; omega), List.map_set]
  rw [e] at hb
  exact hb
theorem RawAt.set_from {w : World} {p : Nat} {r : RawRing} (h : RawAt w p r) (x : Nat) (hx : x < 8) : RawAt (w.setCell ⟨p, 8, none⟩ (.int .i64 x)) p { r with from_ := x } := by
  refine ⟨?_, h.2.1, hx, h.2.2.2⟩
  have hb := h.1.set 8 (.int .i64 x)
  have hl : (r.all.map (Value.int .i64)).length = 8 := by simpa using h.2.1
  have e : (r.cells.toArray.setIfInBounds 8 (.int .i64 x)) = (RawRing.cells { r with from_ := x }).toArray := by
    simp only [RawRing.cells, List.setIfInBounds_toArray]
    rw [List.set_append_right _ _ (by omega), hl]; rfl
  rw [e] at hb
  exact hb
theorem RawAt.set_n {w : World} {p : Nat} {r : RawRing} (h : RawAt w p r) (x : Nat) (hx : (x : Int) ≤ r.most) : RawAt (w.setCell ⟨p, 9, none⟩ (.int .i64 x)) p { r with n := x } := by
  have hm := h.2.2.2.2.2
  refine ⟨?_, h.2.1, h.2.2.1, by show x ≤ 8; omega, hx, hm⟩
  have hb := h.1.set 9 (.int .i64 x)
  have hl : (r.all.map (Value.int .i64)).length = 8 := by simpa using h.2.1
  have e : (r.cells.toArray.setIfInBounds 9 (.int .i64 x)) = (RawRing.cells { r with n := x }).toArray := by
    simp only [RawRing.cells, List.setIfInBounds_toArray]
    rw [List.set_append_right _ _ (by omega), hl]; rfl
  rw [e] at hb
  exact hb

theorem ring_len (p : Nat) (r : RawRing) (w : World) (h : RawAt w p r) :
    Calls Try.prog 91 #[.pointer (some ⟨p, 0, none⟩)] w fun e w' => e = .returned (.int .i64 r.n) ∧ w = w' := by
  obtain ⟨c8, c9, c10⟩ := h.cells
  go_enter Try.func91, Try.ntmps91
  go_wp2_with fail
  go_ret
  exact ⟨rfl, rfl⟩

theorem ring_full (p : Nat) (r : RawRing) (w : World) (h : RawAt w p r) :
    Calls Try.prog 104 #[.pointer (some ⟨p, 0, none⟩)] w fun e w' => e = .returned (.bool ((r.n : Int) == r.most)) ∧ Quiet w w' := by
  obtain ⟨c8, c9, c10⟩ := h.cells
  go_enter Try.func104, Try.ntmps104
  go_wp2_with fail
  go_quiet (fail)
  go_wp2_with fail
  go_ret
  exact ⟨rfl, Quiet.of _ _⟩

theorem ring_at (p : Nat) (r : RawRing) (i : Int) (w : World) (h : RawAt w p r) (hi : 0 ≤ i) (hi' : i ≤ 8) :
    Calls Try.prog 92 #[.pointer (some ⟨p, 0, none⟩), .int .i64 i] w fun e w' => e = .returned (.pointer (some ⟨p, (r.from_ + i.toNat) % 8, none⟩)) ∧ Quiet w w' := by
  obtain ⟨c8, c9, c10⟩ := h.cells
  have hf := h.2.2.1
  obtain ⟨j, rfl⟩ := Int.eq_ofNat_of_zero_le hi
  rw [Int.toNat_natCast]
  have hk0 : ∃ k : Nat, (r.from_ + j) % 8 = k := ⟨_, rfl⟩
  obtain ⟨k, hk⟩ := hk0
  rw [hk]
  have e1 : ((r.from_ : Int) + (j : Int)) % 8 = (k : Int) := by omega
  have e2 : k < 8 := by omega
  clear hk
  go_enter Try.func92, Try.ntmps92
  go_wp2_with fail
  go_quiet (fail)
  go_wp2_with fail
  go_ret
  exact ⟨rfl, Quiet.of _ _⟩

def RawRing.put (r : RawRing) (x : Int) : RawRing := { r with all := r.all.set ((r.from_ + r.n) % 8) x, n := r.n + 1 }
def RawRing.drop (r : RawRing) : RawRing := { r with from_ := (r.from_ + 1) % 8, n := r.n - 1 }

def RawPost (w : World) (p : Nat) (v : Value) (r : RawRing) (e : Ending) (w' : World) : Prop := e = .returned v ∧ RawAt w' p r ∧ Fr (Only p) w w'

set_option maxHeartbeats 400000 in
theorem ring_push_raw (p : Nat) (r : RawRing) (x : Int) (w : World) (h : RawAt w p r) :
    Calls Try.prog 96 #[.pointer (some ⟨p, 0, none⟩), .int .i64 x] w (RawPost w p (.bool (decide ((r.n : Int) ≠ r.most))) (if (r.n : Int) = r.most then r else r.put x)) := by
  have HF := Lib.hid (ring_full p r w h)
  cases hb : ((r.n : Int) == r.most)
  · have hne : ¬ (r.n : Int) = r.most := by simpa using hb
    rw [if_neg hne, decide_eq_true hne]
    rw [hb] at HF
    have hlt : (r.n : Int) < r.most := by have := h.2.2.2.2.1; omega
    have hm8 := h.2.2.2.2.2
    clear hb hne
    go_enter Try.func96, Try.ntmps96
    go_wp2_with fail
    refine HF.out.mono ?_
    rintro e w1 ⟨rfl, hq1⟩
    have f1 : Fr (Only p) w w1 := Fr.of_drewN hq1
    have h1 : RawAt w1 p r := h.fr (Fr.of_drewN (S := Nil) hq1) (fun x => x)
    obtain ⟨c8, c9, c10⟩ := h1.cells
    have HA := Lib.hid (ring_at p r r.n _ h1 (by omega) (by omega))
    clear hq1 HF
    go_wp2_with fail
    refine HA.out.mono ?_
    rw [Int.toNat_natCast]
    rintro e w2 ⟨rfl, hq2⟩
    have f2 : Fr (Only p) w w2 := f1.trans (Fr.of_drewN hq2)
    have h2 : RawAt w2 p r := h1.fr (Fr.of_drewN (S := Nil) hq2) (fun x => x)
    have hk : (r.from_ + r.n) % 8 < 8 := Nat.mod_lt _ (by omega)
    have h3 := h2.set_elem _ hk x
    have hput : RawAt ((w2.setCell ⟨p, (r.from_ + r.n) % 8, none⟩ (.int .i64 x)).setCell ⟨p, 9, none⟩ (.int .i64 ((r.n + 1 : Nat) : Int))) p (r.put x) :=
      h3.set_n (r.n + 1) (by show _ ≤ r.most; omega)
    have he := h2.elem _ hk
    have hfz := h2.free ((r.from_ + r.n) % 8)
    have hfz9 := h2.free 9
    obtain ⟨d8, d9, d10⟩ := h3.cells
    generalize (r.from_ + r.n) % 8 = k at *
    have HP := Lib.hid hput
    clear hput HA c8 c9 c10 h3 hq2 h1 f1
    go_wp2_with fail
    go_ret
    exact ⟨rfl, HP.out, (f2.setAt _ (Only.self p)).setAt _ (Only.self p)⟩
  · have hne : (r.n : Int) = r.most := by simpa using hb
    rw [if_pos hne, decide_eq_false (by simpa using hne)]
    rw [hb] at HF
    clear hb hne
    go_enter Try.func96, Try.ntmps96
    go_wp2_with fail
    refine HF.out.mono ?_
    rintro e w1 ⟨rfl, n1, rfl⟩
    go_wp2_with fail
    go_ret
    exact ⟨rfl, h.drewN _, (Fr.refl _ _).drewN _⟩

/-- The i-th number of a ring. -/
def RawRing.get (r : RawRing) (i : Nat) : Int := r.all.getD ((r.from_ + i) % 8) 0

/-- A queue. -/
structure Ring where
  most : Int
  q : List Int
deriving DecidableEq

def RingAt (w : World) (p : Nat) (ρ : Ring) : Prop := ∃ r : RawRing, RawAt w p r ∧ r.most = ρ.most ∧ r.n = ρ.q.length ∧ ∀ i, i < r.n → r.get i = ρ.q.getD i 0
theorem RingAt.fr {S : Nat → Prop} {w w' : World} {p : Nat} {ρ : Ring} (h : RingAt w p ρ) (f : Fr S w w') (hp : ¬ S p) : RingAt w' p ρ := by
  obtain ⟨r, h1, h2⟩ := h; exact ⟨r, h1.fr f hp, h2⟩
theorem RingAt.lt {w : World} {p : Nat} {ρ : Ring} (h : RingAt w p ρ) : p < w.heap.size := by obtain ⟨r, h1, h2⟩ := h; exact h1.1.lt

def RingPost (w : World) (p : Nat) (v : Value) (ρ : Ring) (e : Ending) (w' : World) : Prop := e = .returned v ∧ RingAt w' p ρ ∧ Fr (Only p) w w'

def Ring.push (ρ : Ring) (x : Int) : Bool × Ring := if (ρ.q.length : Int) = ρ.most then (false, ρ) else (true, { ρ with q := ρ.q ++ [x] })
def Ring.pop (ρ : Ring) : Int × Bool × Ring := match ρ.q with | [] => (0, false, ρ) | x :: q => (x, true, { ρ with q := q })
def Ring.remove (ρ : Ring) (x : Int) : Bool × Ring := if x ∈ ρ.q then (true, { ρ with q := ρ.q.erase x }) else (false, ρ)

theorem get_put (r : RawRing) (hf : r.fine) (x : Int) (hn : (r.n : Int) < r.most) (i : Nat) (hi : i < r.n + 1) : (r.put x).get i = if i = r.n then x else r.get i := by
  obtain ⟨h8, hfr, hn8, hm, hm8⟩ := hf
  simp only [RawRing.get, RawRing.put, List.getD_eq_getElem?_getD]
  by_cases h : i = r.n
  · subst h
    rw [if_pos rfl, List.getElem?_set_self (by rw [h8]; omega)]; rfl
  · rw [if_neg h, List.getElem?_set_ne (by omega)]

theorem ring_push (p : Nat) (ρ : Ring) (x : Int) (w : World) (h : RingAt w p ρ) :
    Calls Try.prog 96 #[.pointer (some ⟨p, 0, none⟩), .int .i64 x] w (RingPost w p (.bool (ρ.push x).1) (ρ.push x).2) := by
  obtain ⟨r, h1, h2, h3, h4⟩ := h
  refine (ring_push_raw p r x w h1).mono ?_
  rintro e w' ⟨rfl, hr, hf⟩
  unfold Ring.push
  rw [← h3, ← h2]
  by_cases hn : (r.n : Int) = r.most
  · rw [if_pos hn] at hr ⊢
    exact ⟨by simp [hn], ⟨r, hr, h2, h3, h4⟩, hf⟩
  · rw [if_neg hn] at hr ⊢
    refine ⟨by simp [hn], ⟨r.put x, hr, rfl, by simp [RawRing.put, h3], fun i hi => ?_⟩, hf⟩
    have hlt : (r.n : Int) < r.most := by have := h1.2.2.2.2.1; omega
    rw [get_put r h1.2 x hlt i hi]
    by_cases hi2 : i = r.n
    · subst hi2; rw [if_pos rfl]; simp [List.getD, h3]
    · rw [if_neg hi2, h4 i (by simp only [RawRing.put] at hi; omega)]
      have : i < ρ.q.length := by simp only [RawRing.put] at hi; omega
      simp [List.getD, List.getElem?_append_left this]

set_option maxHeartbeats 400000 in
theorem ring_pop_raw (p : Nat) (r : RawRing) (w : World) (h : RawAt w p r) :
    Calls Try.prog 74 #[.pointer (some ⟨p, 0, none⟩)] w (RawPost w p (.tuple #[.int .i64 (if r.n = 0 then 0 else r.get 0), .bool (decide (r.n ≠ 0))]) (if r.n = 0 then r else r.drop)) := by
  have HL := Lib.hid (ring_len p r w h)
  by_cases hb : r.n = 0
  · rw [if_pos hb, if_pos hb, decide_eq_false (by simpa using hb)]
    rw [hb] at HL
    clear hb
    go_enter Try.func74, Try.ntmps74
    go_wp2_with (go_at_call 91; (with_reducible refine HL.out.mono ?_); rintro e w1 ⟨rfl, rfl⟩)
    go_ret2
    exact ⟨rfl, h, Fr.refl _ _⟩
  · rw [if_neg hb, if_neg hb, decide_eq_true hb]
    have hne : ((r.n : Int) == 0) = false := by simpa using hb
    have hn8 := h.2.2.2.1
    have hpos : 1 ≤ r.n := by omega
    clear hb
    go_enter Try.func74, Try.ntmps74
    go_wp2_with (go_at_call 91; (with_reducible refine HL.out.mono ?_); rintro e w1 ⟨rfl, rfl⟩)
    refine (ring_at p r 0 _ h (by omega) (by omega)).mono ?_
    rintro e w2 ⟨rfl, hq2⟩
    have f2 : Fr (Only p) w w2 := Fr.of_drewN hq2
    have h2 : RawAt w2 p r := h.fr (Fr.of_drewN (S := Nil) hq2) (fun x => x)
    have hk : (r.from_ + 0) % 8 < 8 := Nat.mod_lt _ (by omega)
    have he := h2.elem _ hk
    obtain ⟨c8, c9, c10⟩ := h2.cells
    have g8 := h2.free 8
    have g9 := h2.free 9
    have h3 := h2.set_from ((r.from_ + 1) % 8) (Nat.mod_lt _ (by omega))
    have h4 := h3.set_n (r.n - 1) (by have := h.2.2.2.2.1; show _ ≤ r.most; omega)
    obtain ⟨d8, d9, d10⟩ := h3.cells
    simp only at d9 d10
    have hget : r.get 0 = r.all.getD ((r.from_ + 0) % 8) 0 := rfl
    have hf8 := h.2.2.1
    have e1 : ((r.from_ : Int) + 1) % 8 = (((r.from_ + 1) % 8 : Nat) : Int) := by omega
    have e2 : (((r.n - 1 : Nat)) : Int) = (r.n : Int) - 1 := by omega
    rw [e2] at h4
    have hdrop : (⟨r.all, (r.from_ + 1) % 8, r.n - 1, r.most⟩ : RawRing) = r.drop := rfl
    simp only [hdrop] at h4
    rw [← e1] at h4 d9
    rw [Int.toNat_zero]
    generalize r.all.getD ((r.from_ + 0) % 8) 0 = v at *
    generalize (r.from_ + 0) % 8 = k at *
    have HP := Lib.hid h4
    have HG := Lib.hid hget
    clear h4 e1 e2 hget hdrop h3 d8 d10 hq2 h HL
    go_wp2_with fail
    go_ret2
    exact ⟨by rw [HG.out]; rfl, HP.out, (f2.setAt _ (Only.self p)).setAt _ (Only.self p)⟩

theorem get_drop (r : RawRing) (i : Nat) : r.drop.get i = r.get (i + 1) := by
  simp only [RawRing.get, RawRing.drop]
  have : ((r.from_ + 1) % 8 + i) % 8 = (r.from_ + (i + 1)) % 8 := by omega
  rw [this]

theorem ring_pop (p : Nat) (ρ : Ring) (w : World) (h : RingAt w p ρ) :
    Calls Try.prog 74 #[.pointer (some ⟨p, 0, none⟩)] w (RingPost w p (.tuple #[.int .i64 ρ.pop.1, .bool ρ.pop.2.1]) ρ.pop.2.2) := by
  obtain ⟨r, h1, h2, h3, h4⟩ := h
  refine (ring_pop_raw p r w h1).mono ?_
  rintro e w' ⟨rfl, hr, hf⟩
  unfold Ring.pop
  obtain ⟨most, q⟩ := ρ
  cases q with
  | nil =>
    have hn : r.n = 0 := h3
    rw [if_pos hn] at hr ⊢
    exact ⟨by simp [hn], ⟨r, hr, h2, h3, h4⟩, hf⟩
  | cons x q =>
    have hn : r.n = q.length + 1 := h3
    rw [if_neg (by omega)] at hr ⊢
    have hx : r.get 0 = x := by rw [h4 0 (by omega)]; rfl
    refine ⟨by rw [hx]; simp [hn], ⟨r.drop, hr, h2, by simp [RawRing.drop, hn], fun i hi => ?_⟩, hf⟩
    simp only [RawRing.drop] at hi
    rw [get_drop, h4 (i + 1) (by omega)]
    simp [List.getD]

theorem Try.info_int : (Try.prog.info? 3).map (fun i => (i.zero, i.size, i.bytes)) = some (some (.int .i64 0), 1, 8) := by kernel_rfl

def ListPost (w : World) (l : List Int) (e : Ending) (w' : World) : Prop := Fr Nil w w' ∧ ∃ s : Value, e = .returned s ∧ w'.ownsRow w.heap.size 3 1 s l.length (ints l)

set_option maxRecDepth 100000 in
set_option maxHeartbeats 1600000 in
theorem ring_list_raw (p : Nat) (r : RawRing) (w : World) (h : RawAt w p r) :
    Calls Try.prog 61 #[.pointer (some ⟨p, 0, none⟩)] w (ListPost w ((List.range r.n).map r.get)) := by
  obtain ⟨i0, hi0, hz0, hz1, hz2⟩ := info_parts Try.info_int
  have HL := Lib.hid (ring_len p r w h)
  have hn8 := h.2.2.2.1
  have hp := h.1.lt
  go_enter Try.func61, Try.ntmps61
  go_wp2_with (go_at_call 91; (with_reducible refine HL.out.mono ?_); rintro e w1 ⟨rfl, rfl⟩)
  go_loopw [3, 7] (fun s i wr => ∃ k : Nat, k ≤ r.n ∧ i = .int .i64 k ∧ wr.ownsRow w.heap.size 3 1 s k (ints ((List.range k).map r.get)) ∧ Fr Nil w wr)
    (fun _ i _ => r.n - (intOf i).toNat)
  case atStart => exact ⟨0, Nat.zero_le _, rfl, World.ownsRow_nil _ _ _ _, Fr.refl _ _⟩
  case round =>
    obtain ⟨k, hk, rfl, hown, hfr⟩ := hrel
    by_cases hlt : k < r.n
    · have h1 := h.fr hfr (fun x => x)
      have HA := Lib.hid (ring_at p r k _ h1 (by omega) (by omega))
      go_wp2_with fail
      refine HA.out.mono ?_
      rw [Int.toNat_natCast]
      rintro e w2 ⟨rfl, hq2⟩
      have hown2 := ownsRow_fr hown (Fr.of_drewN (S := Nil) hq2) (fun _ _ _ x => x)
      have f2 : Fr Nil w w2 := hfr.trans (Fr.of_drewN hq2)
      have h2 : RawAt w2 p r := h.fr f2 (fun x => x)
      have hkk : (r.from_ + k) % 8 < 8 := Nat.mod_lt _ (by omega)
      have he := h2.elem _ hkk
      have hget : r.get k = r.all.getD ((r.from_ + k) % 8) 0 := rfl
      rw [← hget] at he
      have hstep : ints ((List.range (k + 1)).map r.get) = ints ((List.range k).map r.get) ++ [.int .i64 (r.get k)] := by simp [List.range_succ, ints]
      have HS := Lib.hid hstep
      generalize (r.from_ + k) % 8 = j at *
      generalize hv : r.get k = v at *
      have hs2 := f2.size
      clear HA hown hfr hq2 hget hstep hv h1
      go_wp2_with (at_builtin; refine wpList_append_lies _ rfl _ _ _ rfl w.heap.size 3 i0 _ 1 8 Try.underlying29 hi0 hz0 hz1 hz2 rfl (by decide) _ _ _ rfl (hown2.alloc _) ⟨w2.heap.size, 0, none⟩ 1 1 [.int .i64 v] rfl rfl ?c1 ?c2 (by omega) (by unfold maxLen; omega) (by omega) ?c5 _ rfl ?c6)
      case c1 => exact World.news_of_block (cs := #[.int .i64 v]) (t := 3) (fr := (0, 0)) (heap_alloc_new _ _)
      case c2 => simp [Value.oneCell']
      case c5 => simp; omega
      case c6 =>
        intro g cap w3 hown3 hgrow _ _
        have hfr3 := (f2.alloc (.cells #[.int .i64 v] 3)).grown hgrow (fun k hk => .inl (hown2.lt k hk).1)
        rw [← HS.out] at hown3
        clear hgrow hown2 f2 hs2 HS he h2
        go_wp2_with fail
        go_roundw
        case rel => first | exact ⟨k + 1, by omega, by go_num, hown3, hfr3⟩ | ((repeat apply Exists.intro); exact ⟨⟨k + 1, by omega, by go_num, hown3, hfr3⟩, rfl⟩)
        case measure => simp [intOf]; omega
    · go_wp2_with fail
      go_ret
      obtain rfl : k = r.n := by omega
      exact ⟨hfr, _, rfl, by simpa using hown⟩

theorem ring_list (p : Nat) (ρ : Ring) (w : World) (h : RingAt w p ρ) :
    Calls Try.prog 61 #[.pointer (some ⟨p, 0, none⟩)] w (ListPost w ρ.q) := by
  obtain ⟨r, h1, h2, h3, h4⟩ := h
  have e : (List.range r.n).map r.get = ρ.q := by
    apply List.ext_getElem (by simp [h3])
    intro i hi hi'
    simp at hi
    simp [h4 i hi, List.getD, hi']
  rw [← e]
  exact ring_list_raw p r w h1

end Go.Proofs.Ythnaieeaominjaa
