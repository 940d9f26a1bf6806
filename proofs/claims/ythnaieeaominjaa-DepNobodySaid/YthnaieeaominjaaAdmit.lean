/-
  Package bulk: Admit; a new bulk.
-/
import Derived.Test.YthnaieeaominjaaBulk
namespace Go.Proofs.Ythnaieeaominjaa
open Go.RowKit
set_option linter.unusedVariables false
set_option linter.unusedSimpArgs false

/-- A slice that the call owns, read from now on. -/
theorem ownsRow_rd {w : World} {base e size n : Nat} {v : Value} {xs : List Value} (h : w.ownsRow base e size v n xs) (hn : n ≤ 1000000) : ∃ s : Sl, v = s.val ∧ Rd w (fun b => b < base) s size n xs := by
  rcases h.2 with ⟨rfl, h0⟩ | ⟨g, cap, cur, rfl, hg, hh, hc, r⟩
  · exact ⟨⟨none, 0, 0⟩, rfl, h0.symm, by omega, hn, h.1, .inl h0⟩
  · refine ⟨⟨some ⟨g, 0, none⟩, n, cap⟩, rfl, rfl, hc, hn, h.1, .inr ⟨g, 0, rfl, Nat.not_lt.2 hg, (Array.getElem?_eq_some_iff.1 hh).1, fun j v hj => ?_⟩⟩
    have := h.cells (g := g) rfl j v hj
    simpa [Addr.add_lit] using this

theorem RingAt.small {w : World} {p : Nat} {ρ : Ring} (h : RingAt w p ρ) : ρ.q.length ≤ 8 := by
  obtain ⟨r, h1, h2, h3, h4⟩ := h
  rw [← h3]; exact h1.2.2.2.1

theorem ring_len' (p : Nat) (ρ : Ring) (w : World) (h : RingAt w p ρ) :
    Calls Try.prog 91 #[.pointer (some ⟨p, 0, none⟩)] w fun e w' => e = .returned (.int .i64 ρ.q.length) ∧ w = w' := by
  obtain ⟨r, h1, h2, h3, h4⟩ := h
  rw [← h3]
  exact ring_len p r w h1

def Bulk.admit (x : Bulk) (id : Int) : Int × List Int × Bulk :=
  if x.runs id || decide (id ∈ x.wait.q) then (3, [], x)
  else if x.wait.q.isEmpty && (x.set.take (id, 0)).1 then (1, [], { x with set := (x.set.take (id, 0)).2 })
  else if (x.wait.push id).1 then (2, [], { x with wait := (x.wait.push id).2 })
  else if x.pick.2.1 then (2, [x.pick.1], { x.pick.2.2 with wait := (x.pick.2.2.wait.push id).2 }) else (3, [], x.pick.2.2)

def AdmitPost (w : World) (i : BulkIds) (how : Int) (others : List Int) (x : Bulk) (e : Ending) (w' : World) : Prop :=
  ∃ s : Sl, e = .returned (.tuple #[.int .i64 how, s.val]) ∧ BulkAt w' i x ∧ Fr i.in_ w w' ∧ Rd w' (fun b => b < w.heap.size) s 1 others.length (ints others)

theorem rd_nil (w : World) (M : Nat → Prop) : Rd w M ⟨none, 0, 0⟩ 1 0 [] := ⟨rfl, Nat.le_refl _, by omega, rfl, .inl rfl⟩

theorem take_same {s : PSet} {h : Int × Int} (e : (s.take h).1 = false) : (s.take h).2 = s := by
  unfold PSet.take at *
  split at e
  · cases e
  · rename_i hc; rw [if_neg hc]

theorem push_same {r : Ring} {x : Int} (e : (r.push x).1 = false) : (r.push x).2 = r := by
  unfold Ring.push at *
  split at e
  · rename_i hc; rw [if_pos hc]
  · cases e
/-- A slice of one number, just laid. -/
theorem one_rd {w w9 : World} {n : Int} (h : w.heap.size ≤ w9.heap.size) : Rd (w9.alloc (.cells #[.int .i64 n] 3)) (fun b => b < w.heap.size) ⟨some ⟨w9.heap.size, 0, none⟩, 1, 1⟩ 1 1 (ints [n]) := by
  refine ⟨rfl, Nat.le_refl _, by simp, rfl, .inr ⟨w9.heap.size, 0, rfl, Nat.not_lt.2 h, by simp, fun j v hj => ?_⟩⟩
  cases j with
  | zero =>
    have e := (Blk.new w9 (.cells #[.int .i64 n] 3 (0, 0))).cell 0
    simp [ints] at hj e
    subst hj
    simp [e]
  | succ j => simp [ints] at hj

set_option maxRecDepth 100000 in
set_option maxHeartbeats 6400000 in
theorem bulk_admit (i : BulkIds) (x : Bulk) (id : Int) (w : World) (h : BulkAt w i x) :
    Calls Try.prog 70 #[.pointer (some ⟨i.b, 0, none⟩), .int .i64 id] w (AdmitPost w i (x.admit id).1 (x.admit id).2.1 (x.admit id).2.2) := by
  have HR := fun W hW => Lib.hid (bulk_runs i x id W hW)
  cases hr : x.runs id
  case true =>
    have hf : x.admit id = (3, [], x) := by simp [Bulk.admit, hr]
    rw [hf]
    rw [hr] at HR
    clear hf hr
    go_enter Try.func70, Try.ntmps70
    go_wp2_with fail
    refine (HR _ h).out.mono ?_
    rintro e w1 ⟨rfl, hf1⟩
    go_wp2_with fail
    go_ret2
    exact ⟨⟨none, 0, 0⟩, rfl, h.nil hf1, hf1.mono (fun _ _ x => x.elim), rd_nil _ _⟩
  rw [hr] at HR
  have HC : ∀ (W : World) (s : Sl) (M : Nat → Prop), Rd W M s 1 x.wait.q.length (ints x.wait.q) → Hid (Calls Try.prog 95 #[s.val, .int .i64 id] W fun e w' => e = .returned (.bool (decide (id ∈ x.wait.q))) ∧ W = w') :=
    fun W s M hs => Lib.hid (slices_contains M s x.wait.q id W hs)
  by_cases hm : id ∈ x.wait.q
  · have hf : x.admit id = (3, [], x) := by simp [Bulk.admit, hm]
    rw [hf]
    rw [decide_eq_true hm] at HC
    clear hf hr hm
    go_enter Try.func70, Try.ntmps70
    go_wp2_with fail
    refine (HR _ h).out.mono ?_
    rintro e w1 ⟨rfl, hf1⟩
    have h1 := h.nil hf1
    go_wp2_with fail
    refine (bulk_waiting i x w1 h1).mono ?_
    rintro e w2 ⟨hf2, s, rfl, ho⟩
    obtain ⟨s, hs, hrd⟩ := ownsRow_rd ho (by have := h.2.2.1.small; omega)
    rw [hs]
    clear hs ho
    go_wp2_with fail
    refine (HC _ s _ hrd).out.mono ?_
    rintro e w3 ⟨rfl, rfl⟩
    go_wp2_with fail
    go_ret2
    exact ⟨⟨none, 0, 0⟩, rfl, h1.nil hf2, (hf1.trans hf2).mono (fun _ _ x => x.elim), rd_nil _ _⟩
  rw [decide_eq_false hm] at HC
  have hbm : ¬ Only i.m i.b := h.2.2.2.1
  have HPush0 := fun W hW => Lib.hid (ring_push i.r x.wait id W hW)
  have HPick0 := fun W hW => Lib.hid (bulk_pick i x W hW)
  have HLen0 : ∀ W : World, W.heap = W.heap → True := fun _ _ => trivial
  by_cases hq : x.wait.q = []
  · have HLen : ∀ W : World, RingAt W i.r x.wait → Hid (Calls Try.prog 91 #[.pointer (some ⟨i.r, 0, none⟩)] W fun e w' => e = .returned (.int .i64 0) ∧ W = w') := fun W hW => Lib.hid (by have := ring_len' i.r x.wait W hW; rw [hq] at this; exact this)
    have HTake := fun W hW => Lib.hid (permit_take i.s i.m x.set (id, 0) W hW)
    cases hk : (x.set.take (id, 0)).1
    case true =>
      have hf : x.admit id = (1, [], { x with set := (x.set.take (id, 0)).2 }) := by simp [Bulk.admit, hr, hm, hq, hk]
      rw [hf]
      rw [hk] at HTake
      clear hf hr hm hq hk HPush0 HPick0
      go_enter Try.func70, Try.ntmps70
      go_wp2_with fail
      refine (HR _ h).out.mono ?_
      rintro e w1 ⟨rfl, hf1⟩
      have h1 := h.nil hf1
      go_wp2_with fail
      refine (bulk_waiting i x w1 h1).mono ?_
      rintro e w2 ⟨hf2, s, rfl, ho⟩
      obtain ⟨s, hs, hrd⟩ := ownsRow_rd ho (by have := h.2.2.1.small; omega)
      rw [hs]
      clear hs ho
      have h2 := h1.nil hf2
      have f2 : Fr Nil w w2 := hf1.trans hf2
      obtain ⟨c0, c1⟩ := h2.cells
      have hb2 := h2.1.lt
      go_wp2_with fail
      refine (HC _ s _ hrd).out.mono ?_
      rintro e w3 ⟨rfl, rfl⟩
      clear hrd h1 hf1 hf2
      go_wp2_with fail
      go_region_held3 (fun w' => w'.cell? ⟨i.b, 0, none⟩ = some (.pointer (some ⟨i.s, 0, none⟩)) ∧ w'.cell? ⟨i.b, 1, none⟩ = some (.pointer (some ⟨i.r, 0, none⟩)))
        (first
          | (go_split_ands; exact ⟨by rw [cell_fr ((hf4.mono (fun _ _ x => x.elim)).trans hf5) hb2 hbm]; exact c0, by rw [cell_fr ((hf4.mono (fun _ _ x => x.elim)).trans hf5) hb2 hbm]; exact c1⟩)
          | (go_split_ands; exact ⟨by rw [cell_fr hf4 hb2 (fun x => x)]; exact c0, by rw [cell_fr hf4 hb2 (fun x => x)]; exact c1⟩)
          | go_keep)
        (first | (go_at_call 91; refine (HLen _ (RingAt.fr h2.2.2.1 ((Fr.refl Nil w2).drew) (fun x => x))).out.mono ?_; rintro e w' ⟨rfl, rfl⟩) | (go_at_call 76; refine (bulk_own id _).mono ?_; rintro e w4 ⟨rfl, hf4⟩) | (go_at_call 75; refine (HTake _ (SetAt.fr (w := w2.drew) h2.2.1 hf4 (fun x => x) (fun x => x))).out.mono ?_; rintro e w5 ⟨rfl, hs5, hf5⟩))
      go_wp2_with fail
      go_ret2
      have f4 : Fr Nil w2 w4 := ((Fr.refl Nil w2).drew).trans hf4
      have f5 : Fr i.in_ w w5 := ((f2.trans f4).mono (fun _ _ x => x.elim)).trans (hf5.mono (fun _ _ e => .inl e))
      exact ⟨⟨none, 0, 0⟩, rfl, (h2.nil f4).set hs5 hf5, f5, rd_nil _ _⟩
    case false =>
      have hsame := take_same hk
      rw [hk, hsame] at HTake
      cases hp : (x.wait.push id).1
      case true =>
        have hf : x.admit id = (2, [], { x with wait := (x.wait.push id).2 }) := by simp [Bulk.admit, hr, hm, hq, hk, hp]
        rw [hf]
        have HPush := HPush0
        rw [hp] at HPush
        clear hf hr hm hq hk hp hsame HPush0 HPick0
        go_enter Try.func70, Try.ntmps70
        go_wp2_with fail
        refine (HR _ h).out.mono ?_
        rintro e w1 ⟨rfl, hf1⟩
        have h1 := h.nil hf1
        go_wp2_with fail
        refine (bulk_waiting i x w1 h1).mono ?_
        rintro e w2 ⟨hf2, s, rfl, ho⟩
        obtain ⟨s, hs, hrd⟩ := ownsRow_rd ho (by have := h.2.2.1.small; omega)
        rw [hs]
        clear hs ho
        have h2 := h1.nil hf2
        have f2 : Fr Nil w w2 := hf1.trans hf2
        obtain ⟨c0, c1⟩ := h2.cells
        have hb2 := h2.1.lt
        go_wp2_with fail
        refine (HC _ s _ hrd).out.mono ?_
        rintro e w3 ⟨rfl, rfl⟩
        clear hrd h1 hf1 hf2
        go_wp2_with fail
        go_region_held3 (fun w' => w'.cell? ⟨i.b, 0, none⟩ = some (.pointer (some ⟨i.s, 0, none⟩)) ∧ w'.cell? ⟨i.b, 1, none⟩ = some (.pointer (some ⟨i.r, 0, none⟩)))
          (first
            | (go_split_ands; exact ⟨by rw [cell_fr ((hf4.mono (fun _ _ x => x.elim)).trans hf5) hb2 hbm]; exact c0, by rw [cell_fr ((hf4.mono (fun _ _ x => x.elim)).trans hf5) hb2 hbm]; exact c1⟩)
            | (go_split_ands; exact ⟨by rw [cell_fr hf4 hb2 (fun x => x)]; exact c0, by rw [cell_fr hf4 hb2 (fun x => x)]; exact c1⟩)
            | go_keep)
          (first | (go_at_call 91; refine (HLen _ (RingAt.fr h2.2.2.1 ((Fr.refl Nil w2).drew) (fun x => x))).out.mono ?_; rintro e w' ⟨rfl, rfl⟩) | (go_at_call 76; refine (bulk_own id _).mono ?_; rintro e w4 ⟨rfl, hf4⟩) | (go_at_call 75; refine (HTake _ (SetAt.fr (w := w2.drew) h2.2.1 hf4 (fun x => x) (fun x => x))).out.mono ?_; rintro e w5 ⟨rfl, hs5, hf5⟩))
        have f4 : Fr Nil w2 w4 := ((Fr.refl Nil w2).drew).trans hf4
        have h6 := (h2.nil f4).set hs5 hf5
        have f6 : Fr i.in_ w w5 := ((f2.trans f4).mono (fun _ _ x => x.elim)).trans (hf5.mono (fun _ _ e => .inl e))
        have d1 := h6.cells.2
        clear c0 c1
        go_wp2_with fail
        refine (HPush w5 h6.2.2.1).out.mono ?_
        rintro e w7 ⟨rfl, hr7, hf7⟩
        have h7 := h6.ring hr7 hf7
        have f7 : Fr i.in_ w w7 := f6.trans (hf7.mono (fun _ _ e => .inr e))
        go_wp2_with fail
        go_ret2
        exact ⟨⟨none, 0, 0⟩, rfl, h7, f7, rd_nil _ _⟩
      case false =>
        cases hpk : x.pick.2.1
        case true =>
          have hf : x.admit id = (2, [x.pick.1], { x.pick.2.2 with wait := (x.pick.2.2.wait.push id).2 }) := by simp [Bulk.admit, hr, hm, hq, hk, hp, hpk]
          rw [hf]
          have HPush := HPush0
          rw [hp, push_same hp] at HPush
          have HPick := HPick0
          rw [hpk] at HPick
          generalize x.pick.1 = first_ at *
          generalize x.pick.2.2 = xp at *
          clear hf hr hm hq hk hp hpk hsame HPush0 HPick0
          go_enter Try.func70, Try.ntmps70
          go_wp2_with fail
          refine (HR _ h).out.mono ?_
          rintro e w1 ⟨rfl, hf1⟩
          have h1 := h.nil hf1
          go_wp2_with fail
          refine (bulk_waiting i x w1 h1).mono ?_
          rintro e w2 ⟨hf2, s, rfl, ho⟩
          obtain ⟨s, hs, hrd⟩ := ownsRow_rd ho (by have := h.2.2.1.small; omega)
          rw [hs]
          clear hs ho
          have h2 := h1.nil hf2
          have f2 : Fr Nil w w2 := hf1.trans hf2
          obtain ⟨c0, c1⟩ := h2.cells
          have hb2 := h2.1.lt
          go_wp2_with fail
          refine (HC _ s _ hrd).out.mono ?_
          rintro e w3 ⟨rfl, rfl⟩
          clear hrd h1 hf1 hf2
          go_wp2_with fail
          go_region_held3 (fun w' => w'.cell? ⟨i.b, 0, none⟩ = some (.pointer (some ⟨i.s, 0, none⟩)) ∧ w'.cell? ⟨i.b, 1, none⟩ = some (.pointer (some ⟨i.r, 0, none⟩)))
            (first
              | (go_split_ands; exact ⟨by rw [cell_fr ((hf4.mono (fun _ _ x => x.elim)).trans hf5) hb2 hbm]; exact c0, by rw [cell_fr ((hf4.mono (fun _ _ x => x.elim)).trans hf5) hb2 hbm]; exact c1⟩)
              | (go_split_ands; exact ⟨by rw [cell_fr hf4 hb2 (fun x => x)]; exact c0, by rw [cell_fr hf4 hb2 (fun x => x)]; exact c1⟩)
              | go_keep)
            (first | (go_at_call 91; refine (HLen _ (RingAt.fr h2.2.2.1 ((Fr.refl Nil w2).drew) (fun x => x))).out.mono ?_; rintro e w' ⟨rfl, rfl⟩) | (go_at_call 76; refine (bulk_own id _).mono ?_; rintro e w4 ⟨rfl, hf4⟩) | (go_at_call 75; refine (HTake _ (SetAt.fr (w := w2.drew) h2.2.1 hf4 (fun x => x) (fun x => x))).out.mono ?_; rintro e w5 ⟨rfl, hs5, hf5⟩))
          have f4 : Fr Nil w2 w4 := ((Fr.refl Nil w2).drew).trans hf4
          have h6 := (h2.nil f4).set hs5 hf5
          have f6 : Fr i.in_ w w5 := ((f2.trans f4).mono (fun _ _ x => x.elim)).trans (hf5.mono (fun _ _ e => .inl e))
          have d1 := h6.cells.2
          clear c0 c1
          go_wp2_with fail
          refine (HPush w5 h6.2.2.1).out.mono ?_
          rintro e w7 ⟨rfl, hr7, hf7⟩
          have h7 := h6.ring hr7 hf7
          have f7 : Fr i.in_ w w7 := f6.trans (hf7.mono (fun _ _ e => .inr e))
          go_wp2_with fail
          refine (HPick w7 h7).out.mono ?_
          rintro e w8 ⟨rfl, h8, hf8⟩
          have f8 := f7.trans hf8
          have d8 := h8.cells.2
          go_wp2_with fail
          refine (ring_push i.r _ id w8 h8.2.2.1).mono ?_
          rintro e w9 ⟨rfl, hr9, hf9⟩
          have h9 := h8.ring hr9 hf9
          have f9 : Fr i.in_ w w9 := f8.trans (hf9.mono (fun _ _ e => .inr e))
          go_wp2_with fail
          go_ret2
          refine ⟨⟨some ⟨w9.heap.size, 0, none⟩, 1, 1⟩, rfl, h9.nil ((Fr.refl Nil _).alloc _), f9.alloc _, one_rd f9.size⟩
        case false =>
          have hf : x.admit id = (3, [], x.pick.2.2) := by simp [Bulk.admit, hr, hm, hq, hk, hp, hpk]
          rw [hf]
          have HPush := HPush0
          rw [hp, push_same hp] at HPush
          have HPick := HPick0
          rw [hpk] at HPick
          generalize x.pick.1 = first_ at *
          generalize x.pick.2.2 = xp at *
          clear hf hr hm hq hk hp hpk hsame HPush0 HPick0
          go_enter Try.func70, Try.ntmps70
          go_wp2_with fail
          refine (HR _ h).out.mono ?_
          rintro e w1 ⟨rfl, hf1⟩
          have h1 := h.nil hf1
          go_wp2_with fail
          refine (bulk_waiting i x w1 h1).mono ?_
          rintro e w2 ⟨hf2, s, rfl, ho⟩
          obtain ⟨s, hs, hrd⟩ := ownsRow_rd ho (by have := h.2.2.1.small; omega)
          rw [hs]
          clear hs ho
          have h2 := h1.nil hf2
          have f2 : Fr Nil w w2 := hf1.trans hf2
          obtain ⟨c0, c1⟩ := h2.cells
          have hb2 := h2.1.lt
          go_wp2_with fail
          refine (HC _ s _ hrd).out.mono ?_
          rintro e w3 ⟨rfl, rfl⟩
          clear hrd h1 hf1 hf2
          go_wp2_with fail
          go_region_held3 (fun w' => w'.cell? ⟨i.b, 0, none⟩ = some (.pointer (some ⟨i.s, 0, none⟩)) ∧ w'.cell? ⟨i.b, 1, none⟩ = some (.pointer (some ⟨i.r, 0, none⟩)))
            (first
              | (go_split_ands; exact ⟨by rw [cell_fr ((hf4.mono (fun _ _ x => x.elim)).trans hf5) hb2 hbm]; exact c0, by rw [cell_fr ((hf4.mono (fun _ _ x => x.elim)).trans hf5) hb2 hbm]; exact c1⟩)
              | (go_split_ands; exact ⟨by rw [cell_fr hf4 hb2 (fun x => x)]; exact c0, by rw [cell_fr hf4 hb2 (fun x => x)]; exact c1⟩)
              | go_keep)
            (first | (go_at_call 91; refine (HLen _ (RingAt.fr h2.2.2.1 ((Fr.refl Nil w2).drew) (fun x => x))).out.mono ?_; rintro e w' ⟨rfl, rfl⟩) | (go_at_call 76; refine (bulk_own id _).mono ?_; rintro e w4 ⟨rfl, hf4⟩) | (go_at_call 75; refine (HTake _ (SetAt.fr (w := w2.drew) h2.2.1 hf4 (fun x => x) (fun x => x))).out.mono ?_; rintro e w5 ⟨rfl, hs5, hf5⟩))
          have f4 : Fr Nil w2 w4 := ((Fr.refl Nil w2).drew).trans hf4
          have h6 := (h2.nil f4).set hs5 hf5
          have f6 : Fr i.in_ w w5 := ((f2.trans f4).mono (fun _ _ x => x.elim)).trans (hf5.mono (fun _ _ e => .inl e))
          have d1 := h6.cells.2
          clear c0 c1
          go_wp2_with fail
          refine (HPush w5 h6.2.2.1).out.mono ?_
          rintro e w7 ⟨rfl, hr7, hf7⟩
          have h7 := h6.ring hr7 hf7
          have f7 : Fr i.in_ w w7 := f6.trans (hf7.mono (fun _ _ e => .inr e))
          go_wp2_with fail
          refine (HPick w7 h7).out.mono ?_
          rintro e w8 ⟨rfl, h8, hf8⟩
          have f8 := f7.trans hf8
          go_wp2_with fail
          go_ret2
          exact ⟨⟨none, 0, 0⟩, rfl, h8, f8, rd_nil _ _⟩
  · have hql : ((x.wait.q.length : Int) == 0) = false := by simpa using hq
    have HLen : ∀ W : World, RingAt W i.r x.wait → Hid (Calls Try.prog 91 #[.pointer (some ⟨i.r, 0, none⟩)] W fun e w' => e = .returned (.int .i64 x.wait.q.length) ∧ W = w') := fun W hW => Lib.hid (ring_len' i.r x.wait W hW)
    cases hp : (x.wait.push id).1
    case true =>
      have hf : x.admit id = (2, [], { x with wait := (x.wait.push id).2 }) := by simp [Bulk.admit, hr, hm, hq, hp]
      rw [hf]
      have HPush := HPush0
      rw [hp] at HPush
      clear hf hr hm hq hp HPush0 HPick0
      go_enter Try.func70, Try.ntmps70
      go_wp2_with fail
      refine (HR _ h).out.mono ?_
      rintro e w1 ⟨rfl, hf1⟩
      have h1 := h.nil hf1
      go_wp2_with fail
      refine (bulk_waiting i x w1 h1).mono ?_
      rintro e w2 ⟨hf2, s, rfl, ho⟩
      obtain ⟨s, hs, hrd⟩ := ownsRow_rd ho (by have := h.2.2.1.small; omega)
      rw [hs]
      clear hs ho
      have h2 := h1.nil hf2
      have f2 : Fr Nil w w2 := hf1.trans hf2
      obtain ⟨c0, c1⟩ := h2.cells
      have hb2 := h2.1.lt
      go_wp2_with fail
      refine (HC _ s _ hrd).out.mono ?_
      rintro e w3 ⟨rfl, rfl⟩
      clear hrd h1 hf1 hf2
      go_wp2_with fail
      go_quiet ((go_at_call 91; exact Calls.quiet_of_same ((HLen _ (RingAt.fr h2.2.2.1 ((Fr.refl Nil w2).drewN _) (fun x => x))).out.mono fun _ _ h => ⟨h.1, h.2.symm⟩)))
      have h6 : BulkAt (w2.drewN nq) i x := h2
      have f6 : Fr i.in_ w (w2.drewN nq) := (f2.mono (fun _ _ x => x.elim)).drewN nq
      have d1 := h6.cells.2
      clear c0 c1
      go_wp2_with fail
      refine (HPush _ h6.2.2.1).out.mono ?_
      rintro e w7 ⟨rfl, hr7, hf7⟩
      have h7 := h6.ring hr7 hf7
      have f7 : Fr i.in_ w w7 := f6.trans (hf7.mono (fun _ _ e => .inr e))
      go_wp2_with fail
      go_ret2
      exact ⟨⟨none, 0, 0⟩, rfl, h7, f7, rd_nil _ _⟩
    case false =>
      cases hpk : x.pick.2.1
      case true =>
        have hf : x.admit id = (2, [x.pick.1], { x.pick.2.2 with wait := (x.pick.2.2.wait.push id).2 }) := by simp [Bulk.admit, hr, hm, hq, hp, hpk]
        rw [hf]
        have HPush := HPush0
        rw [hp, push_same hp] at HPush
        have HPick := HPick0
        rw [hpk] at HPick
        generalize x.pick.1 = first_ at *
        generalize x.pick.2.2 = xp at *
        clear hf hr hm hq hp hpk HPush0 HPick0
        go_enter Try.func70, Try.ntmps70
        go_wp2_with fail
        refine (HR _ h).out.mono ?_
        rintro e w1 ⟨rfl, hf1⟩
        have h1 := h.nil hf1
        go_wp2_with fail
        refine (bulk_waiting i x w1 h1).mono ?_
        rintro e w2 ⟨hf2, s, rfl, ho⟩
        obtain ⟨s, hs, hrd⟩ := ownsRow_rd ho (by have := h.2.2.1.small; omega)
        rw [hs]
        clear hs ho
        have h2 := h1.nil hf2
        have f2 : Fr Nil w w2 := hf1.trans hf2
        obtain ⟨c0, c1⟩ := h2.cells
        have hb2 := h2.1.lt
        go_wp2_with fail
        refine (HC _ s _ hrd).out.mono ?_
        rintro e w3 ⟨rfl, rfl⟩
        clear hrd h1 hf1 hf2
        go_wp2_with fail
        go_quiet ((go_at_call 91; exact Calls.quiet_of_same ((HLen _ (RingAt.fr h2.2.2.1 ((Fr.refl Nil w2).drewN _) (fun x => x))).out.mono fun _ _ h => ⟨h.1, h.2.symm⟩)))
        have h6 : BulkAt (w2.drewN nq) i x := h2
        have f6 : Fr i.in_ w (w2.drewN nq) := (f2.mono (fun _ _ x => x.elim)).drewN nq
        have d1 := h6.cells.2
        clear c0 c1
        go_wp2_with fail
        refine (HPush _ h6.2.2.1).out.mono ?_
        rintro e w7 ⟨rfl, hr7, hf7⟩
        have h7 := h6.ring hr7 hf7
        have f7 : Fr i.in_ w w7 := f6.trans (hf7.mono (fun _ _ e => .inr e))
        go_wp2_with fail
        refine (HPick w7 h7).out.mono ?_
        rintro e w8 ⟨rfl, h8, hf8⟩
        have f8 := f7.trans hf8
        have d8 := h8.cells.2
        go_wp2_with fail
        refine (ring_push i.r _ id w8 h8.2.2.1).mono ?_
        rintro e w9 ⟨rfl, hr9, hf9⟩
        have h9 := h8.ring hr9 hf9
        have f9 : Fr i.in_ w w9 := f8.trans (hf9.mono (fun _ _ e => .inr e))
        go_wp2_with fail
        go_ret2
        refine ⟨⟨some ⟨w9.heap.size, 0, none⟩, 1, 1⟩, rfl, h9.nil ((Fr.refl Nil _).alloc _), f9.alloc _, one_rd f9.size⟩
      case false =>
        have hf : x.admit id = (3, [], x.pick.2.2) := by simp [Bulk.admit, hr, hm, hq, hp, hpk]
        rw [hf]
        have HPush := HPush0
        rw [hp, push_same hp] at HPush
        have HPick := HPick0
        rw [hpk] at HPick
        generalize x.pick.1 = first_ at *
        generalize x.pick.2.2 = xp at *
        clear hf hr hm hq hp hpk HPush0 HPick0
        go_enter Try.func70, Try.ntmps70
        go_wp2_with fail
        refine (HR _ h).out.mono ?_
        rintro e w1 ⟨rfl, hf1⟩
        have h1 := h.nil hf1
        go_wp2_with fail
        refine (bulk_waiting i x w1 h1).mono ?_
        rintro e w2 ⟨hf2, s, rfl, ho⟩
        obtain ⟨s, hs, hrd⟩ := ownsRow_rd ho (by have := h.2.2.1.small; omega)
        rw [hs]
        clear hs ho
        have h2 := h1.nil hf2
        have f2 : Fr Nil w w2 := hf1.trans hf2
        obtain ⟨c0, c1⟩ := h2.cells
        have hb2 := h2.1.lt
        go_wp2_with fail
        refine (HC _ s _ hrd).out.mono ?_
        rintro e w3 ⟨rfl, rfl⟩
        clear hrd h1 hf1 hf2
        go_wp2_with fail
        go_quiet ((go_at_call 91; exact Calls.quiet_of_same ((HLen _ (RingAt.fr h2.2.2.1 ((Fr.refl Nil w2).drewN _) (fun x => x))).out.mono fun _ _ h => ⟨h.1, h.2.symm⟩)))
        have h6 : BulkAt (w2.drewN nq) i x := h2
        have f6 : Fr i.in_ w (w2.drewN nq) := (f2.mono (fun _ _ x => x.elim)).drewN nq
        have d1 := h6.cells.2
        clear c0 c1
        go_wp2_with fail
        refine (HPush _ h6.2.2.1).out.mono ?_
        rintro e w7 ⟨rfl, hr7, hf7⟩
        have h7 := h6.ring hr7 hf7
        have f7 : Fr i.in_ w w7 := f6.trans (hf7.mono (fun _ _ e => .inr e))
        go_wp2_with fail
        refine (HPick w7 h7).out.mono ?_
        rintro e w8 ⟨rfl, h8, hf8⟩
        have f8 := f7.trans hf8
        go_wp2_with fail
        go_ret2
        exact ⟨⟨none, 0, 0⟩, rfl, h8, f8, rd_nil _ _⟩

end Go.Proofs.Ythnaieeaominjaa
