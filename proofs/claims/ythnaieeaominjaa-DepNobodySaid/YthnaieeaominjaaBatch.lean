/-
  Package batch: calls for many.
-/
import Derived.Test.YthnaieeaominjaaCall
import Derived.Deep.RegionHeld3
import Derived.Deep.AppendLies
namespace Go.Proofs.Ythnaieeaominjaa
open Go.RowKit
set_option linter.unusedVariables false
set_option linter.unusedSimpArgs false

def leadOf : List (Int × Int) → Int | [] => 0 | p :: _ => p.1

set_option maxHeartbeats 400000 in
theorem batch_lead (M : Nat → Prop) (a m : Sl) (l : List (Int × Int)) (w : World) (h : Rd w M m 2 l.length (pairs l)) :
    Calls Try.prog 38 #[.agg #[a.val, m.val]] w fun e w' => e = .returned (.int .i64 (leadOf l)) ∧ Fr Nil w w' := by
  obtain ⟨hl, hcap, hmax, hlen, hc⟩ := h
  obtain ⟨ma, mn, mc⟩ := m
  simp only at hl hcap hc
  subst hl
  cases l with
  | nil =>
    clear hc hlen
    unfold Sl.val leadOf
    go_enter Try.func38, Try.ntmps38
    go_wp2_with fail
    refine wp_loop_rounds 1 ?_
    rw [rounds_succ]
    go_wp2_with fail
    go_ret
    exact ⟨rfl, (Fr.refl _ _).alloc _⟩
  | cons p l =>
    obtain ⟨b, off, rfl, -, hb, hcell⟩ := hc.resolve_left (by simp)
    have c0 := hcell 0 (.int .i64 p.1) (by simp [pairs])
    have c1 := hcell 1 (.int .i64 p.2) (by simp [pairs])
    have hn : (0 : Int) < ((l.length + 1 : Nat) : Int) := by omega
    clear hcell hlen hc
    unfold Sl.val leadOf
    simp only [List.length_cons, Nat.add_zero] at *
    go_enter Try.func38, Try.ntmps38
    go_wp2_with fail
    refine wp_loop_rounds 1 ?_
    rw [rounds_succ]
    go_wp2_with fail
    go_ret
    exact ⟨rfl, ((Fr.refl _ _).alloc _).alloc _⟩

theorem Try.info_pair : (Try.prog.info? 205).map (fun i => (i.zero, i.size, i.bytes)) = some (some (.agg #[.int .i64 0, .int .i64 0]), 2, 16) := by kernel_rfl

/-- Each member's value, if each has a place. -/
def splitOf (vals : List Int) : List (Int × Int) → Option (List (Int × Int))
  | [] => some []
  | p :: l => if 0 ≤ p.2 ∧ p.2 < vals.length then (splitOf vals l).map ((p.1, vals.getD p.2.toNat 0) :: ·) else none

def fitsAll (vals : List Int) (l : List (Int × Int)) : Prop := ∀ p ∈ l, 0 ≤ p.2 ∧ p.2 < vals.length
def valued (vals : List Int) (l : List (Int × Int)) : List (Int × Int) := l.map fun p => (p.1, vals.getD p.2.toNat 0)
theorem splitOf_some {vals : List Int} {l : List (Int × Int)} (h : fitsAll vals l) : splitOf vals l = some (valued vals l) := by
  induction l with
  | nil => rfl
  | cons p l ih =>
    have h1 := h p (by simp)
    simp [splitOf, h1, ih (fun q hq => h q (by simp [hq])), valued]
theorem splitOf_none {vals : List Int} {l : List (Int × Int)} {p : Int × Int} (hp : p ∈ l) (h : ¬ (0 ≤ p.2 ∧ p.2 < vals.length)) : splitOf vals l = none := by
  induction l with
  | nil => cases hp
  | cons q l ih =>
    rcases List.mem_cons.1 hp with rfl | hp
    · simp [splitOf]; omega
    · simp only [splitOf]
      split
      · rw [ih hp]; rfl
      · rfl

theorem valued_step {vl : List Int} {l : List (Int × Int)} {k i : Nat} {id vi : Int} (hlt : k < l.length) (h1 : l[k].1 = id) (h2 : l[k].2 = (i : Int)) (hi : vl[i]? = some vi) :
    valued vl (l.take (k + 1)) = valued vl (l.take k) ++ [(id, vi)] := by
  have e : (valued vl [l[k]]) = [(id, vi)] := by simp [valued, h1, h2, List.getD, hi]
  rw [List.take_succ_eq_append_getElem hlt, ← e]
  exact List.map_append

def SplitPost (w : World) (n : Nat) (vl : List Int) (l : List (Int × Int)) (e : Ending) (w' : World) : Prop :=
  Fr Nil w w' ∧ ∃ (s : Value) (ok : Bool) (r : List (Int × Int)), e = .returned (.tuple #[s, .bool ok]) ∧ r = (if vl.length = n then (splitOf vl l).getD [] else []) ∧
    w'.ownsRow w.heap.size 205 2 s r.length (pairs r)

set_option maxRecDepth 100000 in
set_option maxHeartbeats 3200000 in
theorem batch_split (M : Nat → Prop) (a m v : Sl) (al vl : List Int) (l : List (Int × Int)) (w : World) (ha : Rd w M a 1 al.length (ints al)) (h : Rd w M m 2 l.length (pairs l)) (hv : Rd w M v 1 vl.length (ints vl)) :
    Calls Try.prog 101 #[.agg #[a.val, m.val], v.val] w (SplitPost w al.length vl l) := by
  obtain ⟨i0, hi0, hz0, hz1, hz2⟩ := info_parts Try.info_pair
  obtain ⟨hal, -⟩ := ha
  obtain ⟨hl, hcap, hmax, hlen, hc⟩ := h
  obtain ⟨hvl, hvcap, hvmax, hvlen, hvc⟩ := hv
  obtain ⟨ma, mn, mc⟩ := m
  obtain ⟨va, vn, vc⟩ := v
  obtain ⟨aa, an, ac⟩ := a
  simp only at hl hcap hc hal hvl hvcap hvc
  subst hl hvl hal
  unfold Sl.val
  simp only
  by_cases hn : ((vl.length : Int) == (al.length : Int)) = true
  · have hn' : ((vl.length : Int) != (al.length : Int)) = false := by simpa using hn
    have hn'' : vl.length = al.length := by have h := hn; simp at h; omega
    go_enter Try.func101, Try.ntmps101
    have HN := Lib.hid hn''
    clear hn hn''
    go_wp2_with fail
    clear hn'
    go_loopw [6, 18] (fun s i wr => ∃ k : Nat, k ≤ l.length ∧ i = .int .i64 k ∧ fitsAll vl (l.take k) ∧ wr.ownsRow w.heap.size 205 2 s k (pairs (valued vl (l.take k))) ∧ Fr Nil w wr)
      (fun _ i _ => l.length - (intOf i).toNat)
    case atStart => exact ⟨0, Nat.zero_le _, rfl, by intro p hp; simp at hp, World.ownsRow_nil _ _ _ _, (Fr.refl _ _).alloc _⟩
    case round =>
      obtain ⟨k, hk, rfl, hfits, hown, hfr⟩ := hrel
      by_cases hlt : k < l.length
      · obtain ⟨bm, om, rfl, -, hbm, hcell⟩ := hc.resolve_left (by omega)
        have hp := pairs_get l k hlt
        have c0 := (cell_fr (o := om + k * 2) hfr hbm (fun x => x)).trans (hcell _ _ hp.1)
        have c1 := (cell_fr (o := om + (k * 2 + 1)) hfr hbm (fun x => x)).trans (hcell _ _ hp.2)
        have hbw : bm < wr.heap.size := Nat.lt_of_lt_of_le hbm hfr.size
        rw [← Nat.add_assoc] at c1
        have HC := Lib.hid hcell
        have HF := Lib.hid hfits
        clear hcell hc hp hfits
        have hmem : l[k] ∈ l := List.getElem_mem hlt
        have HP := Lib.hid (show l[k] = (l[k].1, l[k].2) from rfl)
        generalize hid : l[k].1 = id at c0 c1
        generalize hat : l[k].2 = at' at c0 c1
        have Hid1 := Lib.hid hid
        have Hat1 := Lib.hid hat
        clear hid hat
        by_cases hlo : at' < 0
        · go_wp2_with fail
          go_ret2
          have hno : splitOf vl l = none := splitOf_none hmem (by rw [Hat1.out]; omega)
          exact ⟨(hfr.alloc _), .slice none 0 0, _, [], rfl, by rw [if_pos HN.out, hno]; rfl, World.ownsRow_nil _ _ _ _⟩
        have hlo' : decide (at' < 0) = false := by simpa using hlo
        by_cases hhi : (vl.length : Int) ≤ at'
        · go_wp2_with fail
          go_ret2
          have hno : splitOf vl l = none := splitOf_none hmem (by rw [Hat1.out]; omega)
          exact ⟨(hfr.alloc _), .slice none 0 0, _, [], rfl, by rw [if_pos HN.out, hno]; rfl, World.ownsRow_nil _ _ _ _⟩
        have hhi' : decide ((vl.length : Int) ≤ at') = false := by simp; omega
        obtain ⟨i, rfl⟩ := Int.eq_ofNat_of_zero_le (show 0 ≤ at' by omega)
        obtain ⟨bv, ov, rfl, -, hbv, hvcell⟩ := hvc.resolve_left (by omega)
        have cv := (cell_fr (o := ov + i) hfr hbv (fun x => x)).trans (hvcell i _ (ints_get vl i (by omega)))
        have hws := hfr.size
        have hbvw : bv < wr.heap.size := Nat.lt_of_lt_of_le hbv hfr.size
        have lo0 : (0 : Int) ≤ (i : Int) := by omega
        have hi0' : (i : Int) < (vl.length : Int) := by omega
        have n1 := own_ne_new hown (Nat.le_refl _)
        have n2 := own_ne_old hown hbv
        clear hvcell hvc
        generalize hvi : vl[i] = vi at cv
        have Hvi := Lib.hid hvi
        clear hvi
        go_wp2_with fail
        go_region_held3 (fun w' => w'.cell? ⟨wr.heap.size, 0, none⟩ = some (.int .i64 id) ∧ w'.cell? ⟨wr.heap.size, 1, none⟩ = some (.int .i64 i) ∧ w'.cell? ⟨bv, ov + i, none⟩ = some (.int .i64 vi))
          (first
            | go_keep
            | (go_split_ands
               refine ⟨?_, ?_, ?_⟩
               · (rw [hgrow.cell_far _ (by simp; omega) (Ne.symm n1)]; assumption)
               · (rw [hgrow.cell_far _ (by simp; omega) (Ne.symm n1)]; assumption)
               · (rw [hgrow.cell_far _ (by simp; omega) (Ne.symm n2)]; assumption)))
          ((refine step_append_lies _ (by rfl) _ _ _ (by rfl) w.heap.size 205 i0 _ 2 16 Try.underlying201 hi0 hz0 hz1 hz2 rfl (by omega) _ _ _ (by rfl) (((hown.alloc _).alloc _).drew)
              ⟨wr.heap.size + 1, 0, none⟩ 1 1 [.int .i64 id, .int .i64 vi] (by rfl) (by rfl) (World.news_of_block (cs := #[.int .i64 id, .int .i64 vi]) (t := 205) (fr := (0, 0)) (drew_new _ _ _ (by simp))) (by simp [Value.oneCell'])
              (by omega) (by unfold maxLen; omega) (by omega) (by simp; omega) (wr.heap.size + 2) (by simp) ?_; intro gg cap w1 hown1 hgrow hwhere hgl))
        have hfr1 : Fr Nil w w1 := by
          refine Fr.grown (((hfr.alloc _).alloc _).drew) hgrow (fun k hk => .inl ?_)
          exact (hown.lt k hk).1
        have hk1 := valued_step hlt Hid1.out Hat1.out (show vl[i]? = some vi by rw [← Hvi.out]; simp)
        have hfit1 : fitsAll vl (l.take (k + 1)) := by
          intro p hp
          rw [List.take_succ_eq_append_getElem hlt] at hp
          rcases List.mem_append.1 hp with hp | hp
          · exact HF.out p hp
          · simp at hp; subst hp; rw [Hat1.out]; omega
        have hown2 : w1.ownsRow w.heap.size 205 2 (.slice (some ⟨gg, 0, none⟩) (k + 1) cap) (k + 1) (pairs (valued vl (l.take (k + 1)))) := by
          rw [hk1]; simpa [pairs] using hown1
        have H1 := Lib.hid hk1
        clear hk1 hown1 hgrow hwhere hown hfr c0 c1
        go_wp2_with fail
        go_roundw
        case rel => exact ⟨k + 1, by omega, by go_num, hfit1, hown2, hfr1⟩
        case measure => simp [intOf]; omega
      · go_wp2_with fail
        go_ret2
        obtain rfl : k = l.length := by omega
        rw [List.take_length] at hfits hown
        exact ⟨hfr, _, _, valued vl l, rfl, by rw [if_pos HN.out, splitOf_some hfits]; rfl, by simpa [valued] using hown⟩
  · have hn' : ((vl.length : Int) != (al.length : Int)) = true := by simpa using hn
    have hn'' : ¬ vl.length = al.length := by have h := hn; simp at h; omega
    go_enter Try.func101, Try.ntmps101
    go_wp2_with fail
    go_ret2
    exact ⟨(Fr.refl _ _).alloc _, .slice none 0 0, _, [], rfl, by rw [if_neg hn''], World.ownsRow_nil _ _ _ _⟩

end Go.Proofs.Ythnaieeaominjaa
