/-
  Package ring: a number is taken out; a new ring.
-/
import Derived.Test.YthnaieeaominjaaRing
namespace Go.Proofs.Ythnaieeaominjaa
open Go.RowKit
set_option linter.unusedVariables false
set_option linter.unusedSimpArgs false

theorem ring_new (most : Int) (w : World) (h0 : 0 ≤ most) (h8 : most ≤ 8) :
    Calls Try.prog 59 #[.int .i64 most] w fun e w' => ∃ p, e = .returned (.pointer (some ⟨p, 0, none⟩)) ∧ RingAt w' p ⟨most, []⟩ ∧ w.heap.size ≤ p ∧ Fr Nil w w' := by
  have h0' : decide (most < 0) = false := by simp; omega
  have h8' : decide (8 < most) = false := by simp; omega
  go_enter Try.func59, Try.ntmps59
  go_wp2_with fail
  go_ret
  refine ⟨w.heap.size, rfl, ⟨⟨[0, 0, 0, 0, 0, 0, 0, 0], 0, 0, most⟩, ⟨Blk.new _ _, rfl, Nat.zero_lt_succ _, Nat.zero_le _, h0, h8⟩, rfl, rfl, fun i hi => ?_⟩, Nat.le_refl _, (Fr.refl _ _).alloc _⟩
  simp at hi

/-- How a ring lies while what stands behind place i is moved up, as far as place k. -/
def Shift (r r' : RawRing) (i k : Nat) : Prop :=
  r'.from_ = r.from_ ∧ r'.n = r.n ∧ r'.most = r.most ∧ ∀ j, j < r.n → r'.get j = if j < i then r.get j else if j < k then r.get (j + 1) else r.get j

theorem get_set (r : RawRing) (hf : r.fine) (x : Int) (j k : Nat) (hj : j < r.n) (hk : k < r.n) : (RawRing.get { r with all := r.all.set ((r.from_ + k) % 8) x } j) = if j = k then x else r.get j := by
  obtain ⟨h8, hfr, hn8, hm, hm8⟩ := hf
  simp only [RawRing.get, List.getD_eq_getElem?_getD]
  by_cases h : j = k
  · subst h
    rw [if_pos rfl, List.getElem?_set_self (by rw [h8]; omega)]; rfl
  · rw [if_neg h, List.getElem?_set_ne (by omega)]

theorem Shift.step {r r' : RawRing} {i k : Nat} (h : Shift r r' i k) (hf : r'.fine) (hi : i ≤ k) (hk : k + 1 < r.n) : Shift r { r' with all := r'.all.set ((r'.from_ + k) % 8) (r'.get (k + 1)) } i (k + 1) := by
  obtain ⟨h1, h2, h3, h4⟩ := h
  refine ⟨h1, h2, h3, fun j hj => ?_⟩
  rw [get_set r' hf _ j k (by omega) (by omega)]
  by_cases hjk : j = k
  · subst hjk
    rw [if_pos rfl, h4 (j + 1) hk, if_neg (by omega), if_neg (by omega), if_neg (by omega), if_pos (by omega)]
  · rw [if_neg hjk, h4 j hj]
    by_cases h5 : j < i
    · rw [if_pos h5, if_pos h5]
    · rw [if_neg h5, if_neg h5]
      by_cases h6 : j < k
      · rw [if_pos h6, if_pos (by omega)]
      · rw [if_neg h6, if_neg (by omega)]

theorem erase_get {l : List Int} {x : Int} {i : Nat} (hi : i < l.length) (hx : l.getD i 0 = x) (hno : ∀ j, j < i → l.getD j 0 ≠ x) (j : Nat) (hj : j + 1 < l.length) : (l.erase x).getD j 0 = if j < i then l.getD j 0 else l.getD (j + 1) 0 := by
  induction l generalizing i j with
  | nil => simp at hi
  | cons y l ih =>
    by_cases hy : y = x
    · subst hy
      have : i = 0 := by
        rcases Nat.eq_zero_or_pos i with h | h
        · exact h
        · exact absurd rfl (hno 0 h)
      subst this
      simp
    · rw [List.erase_cons_tail (by simpa using hy)]
      cases i with
      | zero => exact absurd hx hy
      | succ i =>
        cases j with
        | zero => simp
        | succ j =>
          have := ih (i := i) (by simpa using hi) (by simpa using hx) (fun j hj => by simpa using hno (j + 1) (by omega)) j (by simpa using hj)
          simpa using this

def RemovePost (w : World) (p : Nat) (ρ : Ring) (x : Int) (e : Ending) (w' : World) : Prop := RingPost w p (.bool (ρ.remove x).1) (ρ.remove x).2 e w'

set_option maxRecDepth 100000 in
set_option maxHeartbeats 1600000 in
theorem ring_remove (p : Nat) (ρ : Ring) (x : Int) (w : World) (h : RingAt w p ρ) :
    Calls Try.prog 89 #[.pointer (some ⟨p, 0, none⟩), .int .i64 x] w (RemovePost w p ρ x) := by
  obtain ⟨r, h1, hmost, hn, hq⟩ := h
  have HL := Lib.hid (ring_len p r w h1)
  have hn8 := h1.2.2.2.1
  have hp := h1.1.lt
  have HN := Lib.hid hn
  have HM := Lib.hid hmost
  clear hn hmost
  go_enter Try.func89, Try.ntmps89
  go_wp2_with (go_at_call 91; (with_reducible refine HL.out.mono ?_); rintro e w1 ⟨rfl, rfl⟩)
  go_loopw [9] (fun i wr => ∃ k : Nat, k ≤ r.n ∧ i = .int .i64 k ∧ (∀ j, j < k → r.get j ≠ x) ∧ Quiet w wr)
    (fun i _ => r.n - (intOf i).toNat)
  case atStart => exact ⟨0, Nat.zero_le _, rfl, fun j hj => absurd hj (Nat.not_lt_zero _), Quiet.refl _⟩
  case round =>
    obtain ⟨k, hk, rfl, hno, hqw⟩ := hrel
    have HNo := Lib.hid hno
    clear hno
    by_cases hlt : k < r.n
    · have f1 : Fr Nil w wr := Fr.of_drewN hqw
      have h2 := h1.fr f1 (fun x => x)
      have HA := Lib.hid (ring_at p r k _ h2 (by omega) (by omega))
      go_wp2_with fail
      refine HA.out.mono ?_
      rw [Int.toNat_natCast]
      rintro e w2 ⟨rfl, hq2⟩
      have f2 : Fr Nil w w2 := f1.trans (Fr.of_drewN hq2)
      have hqq : Quiet w w2 := by obtain ⟨a, rfl⟩ := hqw; obtain ⟨b, rfl⟩ := hq2; exact ⟨a + b, by simp⟩
      have h3 := h1.fr f2 (fun x => x)
      have hkk : (r.from_ + k) % 8 < 8 := Nat.mod_lt _ (by omega)
      have he := h3.elem _ hkk
      have hget : r.get k = r.all.getD ((r.from_ + k) % 8) 0 := rfl
      rw [← hget] at he
      generalize (r.from_ + k) % 8 = a at *
      generalize hv : r.get k = v at *
      have HV := Lib.hid hv
      clear HA hget hq2 hqw f1 h2 hv
      by_cases hx : (v == x) = true
      · have hx' : (v != x) = false := by simpa using hx
        have HX := Lib.hid (show v = x by simpa using hx)
        obtain ⟨c8, c9, c10⟩ := h3.cells
        clear hx
        go_wp2_with fail
        have f2' : Fr (Only p) w w2 := f2.mono (fun _ _ h => h.elim)
        clear c8 c9 c10 he hqq f2
        go_loopw [6] (fun i wr => ∃ j : Nat, k ≤ j ∧ j < r.n ∧ i = .int .i64 j ∧ (∃ r', RawAt wr p r' ∧ Shift r r' k j) ∧ Fr (Only p) w wr)
          (fun i _ => r.n - (intOf i).toNat)
        case atStart => exact ⟨k, Nat.le_refl _, hlt, rfl, ⟨r, h3, rfl, rfl, rfl, fun j _ => by split <;> (try split) <;> first | rfl | omega⟩, f2'⟩
        case round =>
          obtain ⟨j, hkj, hjn, rfl, ⟨r', hr', hsh⟩, hf3⟩ := hrel
          obtain ⟨d8, d9, d10⟩ := hr'.cells
          rw [hsh.2.1] at d9
          by_cases hj1 : j + 1 < r.n
          · have hj1' : ((j : Int) + 1) < (r.n : Int) := by omega
            go_wp2_with fail
            refine (ring_at p r' j _ hr' (by omega) (by omega)).mono ?_
            rw [Int.toNat_natCast]
            rintro e w4 ⟨rfl, hq4⟩
            have f4 : Fr (Only p) w w4 := hf3.trans (Fr.of_drewN hq4)
            have h4 := hr'.fr (Fr.of_drewN (S := Nil) hq4) (fun x => x)
            clear hq4
            go_wp2_with fail
            refine (ring_at p r' _ _ h4 (by omega) (by omega)).mono ?_
            rw [show ((j : Int) + 1).toNat = j + 1 by omega]
            rintro e w5 ⟨rfl, hq5⟩
            have f5 : Fr (Only p) w w5 := f4.trans (Fr.of_drewN hq5)
            have h5 := h4.fr (Fr.of_drewN (S := Nil) hq5) (fun x => x)
            have m0 : (r'.from_ + j) % 8 < 8 := Nat.mod_lt _ (by omega)
            have m1 : (r'.from_ + (j + 1)) % 8 < 8 := Nat.mod_lt _ (by omega)
            have e0 := h5.elem _ m0
            have e1 := h5.elem _ m1
            have z0 := h5.free ((r'.from_ + j) % 8)
            have hstep := hsh.step h5.2 hkj hj1
            have hset := h5.set_elem _ m0 (r'.get (j + 1))
            have hg : r'.get (j + 1) = r'.all.getD ((r'.from_ + (j + 1)) % 8) 0 := rfl
            rw [← hg] at e1
            have HS := Lib.hid hstep
            have HT := Lib.hid hset
            generalize r'.get (j + 1) = v1 at *
            generalize r'.all.getD ((r'.from_ + j) % 8) 0 = v0 at *
            generalize (r'.from_ + j) % 8 = a0 at *
            generalize (r'.from_ + (j + 1)) % 8 = a1 at *
            clear hq5 h4 h5 hr' hsh d8 d9 d10 hstep hset hg f4
            go_wp2_with fail
            go_roundw
            case rel => first | exact ⟨j + 1, by omega, hj1, by go_num, ⟨_, HT.out, HS.out⟩, f5.setAt _ (Only.self p)⟩ | ((repeat apply Exists.intro); exact ⟨⟨j + 1, by omega, hj1, by go_num, ⟨_, HT.out, HS.out⟩, f5.setAt _ (Only.self p)⟩, rfl⟩)
            case measure => simp [intOf]; omega
          · have hj1' : ¬ ((j : Int) + 1) < (r.n : Int) := by omega
            have z9 := hr'.free 9
            have hpos : 1 ≤ r.n := by omega
            go_wp2_with fail
            go_ret
            have hmr := h1.2.2.2.2.1
            have hlast : RawAt (wr.setCell ⟨p, 9, none⟩ (.int .i64 ((r.n : Int) - 1))) p { r' with n := r.n - 1 } := by
              have := hr'.set_n (r.n - 1) (by rw [hsh.2.2.1]; omega)
              rw [show ((r.n - 1 : Nat) : Int) = (r.n : Int) - 1 by omega] at this
              exact this
            have hkq : k < ρ.q.length := by rw [← HN.out]; exact hlt
            have hxq : ρ.q.getD k 0 = x := by rw [← hq k hlt, HV.out, HX.out]
            have hmem : x ∈ ρ.q := by
              rw [← hxq, List.getD_eq_getElem?_getD, List.getElem?_eq_getElem hkq]
              exact List.getElem_mem hkq
            have hnoq : ∀ j, j < k → ρ.q.getD j 0 ≠ x := fun j hj => by rw [← hq j (by omega)]; exact HNo.out j hj
            unfold RemovePost Ring.remove
            rw [if_pos hmem]
            refine ⟨rfl, ⟨_, hlast, by rw [← HM.out]; exact hsh.2.2.1, by simp [List.length_erase_of_mem hmem, ← HN.out], fun i hi => ?_⟩, hf3.setAt _ (Only.self p)⟩
            simp only at hi
            have hgi : (RawRing.get { r' with n := r.n - 1 } i) = r'.get i := rfl
            rw [hgi, hsh.2.2.2 i (by omega), erase_get hkq hxq hnoq i (by rw [← HN.out]; omega)]
            by_cases hik : i < k
            · rw [if_pos hik, if_pos hik, hq i (by omega)]
            · rw [if_neg hik, if_neg hik, if_pos (by omega), hq (i + 1) (by omega)]
      · have hx' : (v != x) = true := by simpa using hx
        have HX := Lib.hid (show v ≠ x by simpa using hx)
        clear hx
        go_wp2_with fail
        have hno2 : ∀ j, j < k + 1 → r.get j ≠ x := by
          intro j hj
          rcases Nat.lt_or_ge j k with h | h
          · exact HNo.out j h
          · obtain rfl : j = k := by omega
            rw [HV.out]; exact HX.out
        go_roundw
        case rel => first | exact ⟨k + 1, by omega, by go_num, hno2, hqq⟩ | ((repeat apply Exists.intro); exact ⟨⟨k + 1, by omega, by go_num, hno2, hqq⟩, rfl⟩)
        case measure => simp [intOf]; omega
    · go_wp2_with fail
      go_ret
      obtain rfl : k = r.n := by omega
      have hnot : ¬ x ∈ ρ.q := by
        intro hm
        obtain ⟨j, hj, hxj⟩ := List.getElem_of_mem hm
        have hjn : j < r.n := by rw [HN.out]; exact hj
        exact HNo.out j hjn (by rw [hq j hjn]; simp [List.getD, hj, hxj])
      unfold RemovePost Ring.remove
      rw [if_neg hnot]
      exact ⟨rfl, ⟨r, h1.fr (Fr.of_drewN (S := Nil) hqw) (fun x => x), HM.out, HN.out, hq⟩, Fr.of_drewN hqw⟩

end Go.Proofs.Ythnaieeaominjaa
