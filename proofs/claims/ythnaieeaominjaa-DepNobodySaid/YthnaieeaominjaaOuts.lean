/-
  What came of a call's members (call.Outs); a batch of one (batch.One).
-/
import Derived.Test.YthnaieeaominjaaBatch
namespace Go.Proofs.Ythnaieeaominjaa
open Go.RowKit
set_option linter.unusedVariables false
set_option linter.unusedSimpArgs false

theorem Try.info_out : (Try.prog.info? 82).map (fun i => (i.zero, i.size, i.bytes)) = some (some (.agg #[.int .i64 0, .int .i64 0, .int .i64 0, .int .i64 0, .int .u64 0]), 5, 40) := by kernel_rfl

def outCells (l : List Out) : List Value := l.flatMap Out.cells
theorem outCells_snoc (l : List Out) (o : Out) : outCells (l ++ [o]) = outCells l ++ o.cells := by simp [outCells]

def outsFail (c : CallR) (now : Int) (l : List (Int × Int)) : List Out := l.map fun p => c.out p.1 4 0 now
def outsTold (c : CallR) (kind now : Int) (l : List (Int × Int)) : List Out := l.map fun p => c.out p.1 kind p.2 now

/-- What came of a call's members. -/
def outsOf (c : CallR) (nargs : Nat) (members : List (Int × Int)) (kind : Int) (vals : List Int) (now : Int) : List Out :=
  if kind = 4 then outsFail c now members
  else if kind = 1 ∨ kind = 3 then outsTold c kind now (if vals.length = nargs then (splitOf vals members).getD [] else [])
  else []

theorem map_take_snoc {α β : Type} (f : α → β) (l : List α) (k : Nat) (h : k < l.length) : (l.take (k + 1)).map f = (l.take k).map f ++ [f l[k]] := by
  rw [List.take_succ_eq_append_getElem h]; exact List.map_append

def OutsPost (w : World) (outs : List Out) (e : Ending) (w' : World) : Prop :=
  Fr Nil w w' ∧ ∃ s : Value, e = .returned s ∧ w'.ownsRow w.heap.size 82 5 s outs.length (outCells outs)

set_option maxRecDepth 100000 in
set_option maxHeartbeats 1600000 in
theorem call_outs_failed (M : Nat → Prop) (c : CallR) (l : List (Int × Int)) (v : Value) (now : Int) (w : World) (h : Rd w M c.members 2 l.length (pairs l)) :
    Calls Try.prog 84 #[c.val, .int .i64 4, v, .int .u64 now] w (OutsPost w (outsFail c now l)) := by
  obtain ⟨i0, hi0, hz0, hz1, hz2⟩ := info_parts Try.info_out
  obtain ⟨a, ⟨ma, mn, mc⟩, st, sp, ca, t⟩ := c
  obtain ⟨hl, hcap, hmax, hlen, hc⟩ := h
  simp only at hl hcap hc
  subst hl
  have HB := fun w id => Lib.hid (call_out ⟨a, ⟨ma, l.length, mc⟩, st, sp, ca, t⟩ id 4 0 now w)
  simp only [CallR.val, Sl.val] at HB
  unfold CallR.val Sl.val
  simp only
  go_enter Try.func84, Try.ntmps84
  go_wp2_with fail
  go_loopw [9, 23] (fun s i wr => ∃ k : Nat, k ≤ l.length ∧ i = .int .i64 k ∧ wr.ownsRow (w.heap.size + 1) 82 5 s k (outCells (outsFail ⟨a, ⟨ma, l.length, mc⟩, st, sp, ca, t⟩ now (l.take k))) ∧
      Blk wr w.heap.size (.cells #[.slice a.at_ a.len a.cap, .slice ma l.length mc, .int .i64 st, .int .i64 sp, .int .i64 ca, .int .u64 t] 116 (0, 0)) ∧ Fr Nil w wr)
    (fun _ i _ => l.length - (intOf i).toNat)
  case atStart => exact ⟨0, Nat.zero_le _, rfl, World.ownsRow_nil _ _ _ _, Blk.new _ _, (Fr.refl _ _).alloc _⟩
  case round =>
    obtain ⟨k, hk, rfl, hown, hblk, hfr⟩ := hrel
    by_cases hlt : k < l.length
    · obtain ⟨bm, om, rfl, -, hbm, hcell⟩ := hc.resolve_left (by omega)
      have hp := pairs_get l k hlt
      have c0 := (cell_fr (o := om + k * 2) hfr hbm (fun x => x)).trans (hcell _ _ hp.1)
      have c1 := (cell_fr (o := om + (k * 2 + 1)) hfr hbm (fun x => x)).trans (hcell _ _ hp.2)
      have hbw : bm < wr.heap.size := Nat.lt_of_lt_of_le hbm hfr.size
      rw [← Nat.add_assoc] at c1
      have d0 := hblk.cell 0
      have d1 := hblk.cell 1
      have d2 := hblk.cell 2
      have d3 := hblk.cell 3
      have d4 := hblk.cell 4
      have d5 := hblk.cell 5
      simp at d0 d1 d2 d3 d4 d5
      have hbl := hblk.lt
      have HS := Lib.hid (map_take_snoc (fun p : Int × Int => CallR.out ⟨a, ⟨some ⟨bm, om, none⟩, l.length, mc⟩, st, sp, ca, t⟩ p.1 4 0 now) l k hlt)
      clear hcell hc hp
      generalize hid : l[k].1 = id at *
      generalize l[k].2 = at' at c1
      go_wp2_with fail
      refine (HB _ id).out.mono ?_
      rintro e w2 ⟨rfl, hf2⟩
      have hown2 := ownsRow_fr (hown.alloc (.cells #[.int .i64 id, .int .i64 at'] 172)) hf2 (fun _ _ _ x => x)
      have hblk2 := (hblk.alloc (.cells #[.int .i64 id, .int .i64 at'] 172)).fr hf2 (fun x => x)
      have hfr2 := (hfr.alloc (.cells #[.int .i64 id, .int .i64 at'] 172)).trans hf2
      have hs2 := hf2.size
      have hs0 := hfr.size
      simp only [World.size_alloc] at hs2
      clear hown hblk hfr hf2 c0 c1 d0 d1 d2 d3 d4 d5
      simp only [CallR.out, Out.cells, List.toArray]
      go_wp2_with (at_builtin; refine wpList_append_lies _ rfl _ _ _ rfl (w.heap.size + 1) 82 i0 _ 5 40 Try.underlying41 hi0 hz0 hz1 hz2 rfl (by decide) _ _ _ rfl (hown2.alloc _) ⟨w2.heap.size, 0, none⟩ 1 1 [.int .i64 id, .int .i64 4, .int .i64 ca, .int .i64 0, .int .u64 now] rfl rfl ?c1 ?c2 (by omega) (by unfold maxLen; omega) (by omega) ?c5 _ rfl ?c6)
      case c1 => exact World.news_of_block (cs := #[.int .i64 id, .int .i64 4, .int .i64 ca, .int .i64 0, .int .u64 now]) (t := 82) (fr := (0, 0)) (heap_alloc_new _ _)
      case c2 => simp [Value.oneCell']
      case c5 => simp; omega
      case c6 =>
        intro g cap w3 hown3 hgrow _ _
        have hfr3 := (hfr2.alloc (.cells #[.int .i64 id, .int .i64 4, .int .i64 ca, .int .i64 0, .int .u64 now] 82)).grown hgrow (fun k hk => .inl (Nat.le_of_succ_le (hown2.lt k hk).1))
        have hblk3 := (hblk2.alloc (.cells #[.int .i64 id, .int .i64 4, .int .i64 ca, .int .i64 0, .int .u64 now] 82)).grown hgrow (own_ne_old hown2 (Nat.lt_succ_self _))
        have hown4 : w3.ownsRow (w.heap.size + 1) 82 5 (.slice (some ⟨g, 0, none⟩) (k + 1) cap) (k + 1) (outCells (outsFail ⟨a, ⟨some ⟨bm, om, none⟩, l.length, mc⟩, st, sp, ca, t⟩ now (l.take (k + 1)))) := by
          rw [outsFail, HS.out, outCells_snoc]
          exact hown3
        clear hown3 hgrow hown2 hblk2 hfr2 hs2 HS hid
        go_wp2_with fail
        go_roundw
        case rel => first | exact ⟨k + 1, by omega, by go_num, hown4, hblk3, hfr3⟩ | ((repeat apply Exists.intro); exact ⟨⟨k + 1, by omega, by go_num, hown4, hblk3, hfr3⟩, rfl⟩)
        case measure => simp [intOf]; omega
    · go_wp2_with fail
      go_ret
      obtain rfl : k = l.length := by omega
      rw [List.take_length] at hown
      exact ⟨hfr, _, rfl, by simpa [outsFail] using ownsRow_base hown (Nat.le_succ _)⟩

set_option maxRecDepth 100000 in
set_option maxHeartbeats 1600000 in
theorem call_outs_told (M : Nat → Prop) (c : CallR) (kind now : Int) (hkind : kind = 1 ∨ kind = 3) (al vl : List Int) (l : List (Int × Int)) (v : Sl) (w : World) (ha : Rd w M c.args 1 al.length (ints al))
    (h : Rd w M c.members 2 l.length (pairs l)) (hv : Rd w M v 1 vl.length (ints vl)) :
    Calls Try.prog 84 #[c.val, .int .i64 kind, v.val, .int .u64 now] w (OutsPost w (outsTold c kind now (if vl.length = al.length then (splitOf vl l).getD [] else []))) := by
  obtain ⟨i0, hi0, hz0, hz1, hz2⟩ := info_parts Try.info_out
  have h4 : (kind == 4) = false := by simp; omega
  have hmax := h.2.2.1
  have HS : ∀ o : Obj, Hid (Calls Try.prog 101 #[.agg #[c.args.val, c.members.val], v.val] (w.alloc o) (SplitPost (w.alloc o) al.length vl l)) := fun o =>
    Lib.hid (batch_split M c.args c.members v al vl l (w.alloc o) (ha.fr ((Fr.refl Nil _).alloc o) (fun _ _ x => x.elim)) (h.fr ((Fr.refl Nil _).alloc o) (fun _ _ x => x.elim)) (hv.fr ((Fr.refl Nil _).alloc o) (fun _ _ x => x.elim)))
  have hsz : ((if vl.length = al.length then (splitOf vl l).getD [] else []) : List (Int × Int)).length ≤ l.length := by
    split
    · cases hs : splitOf vl l with
      | none => simp
      | some r =>
        by_cases hf : fitsAll vl l
        · rw [splitOf_some hf] at hs; cases hs; simp [valued]
        · simp only [fitsAll, Classical.not_forall] at hf
          obtain ⟨p, hp, hn⟩ := hf
          rw [splitOf_none hp hn] at hs; cases hs
    · simp
  generalize hr : (if vl.length = al.length then (splitOf vl l).getD [] else [] : List (Int × Int)) = r at *
  have HR := Lib.hid hr
  clear ha h hv hr
  have HB := fun w id val => Lib.hid (call_out c id kind val now w)
  obtain ⟨⟨aa, an, ac⟩, ⟨ma, mn, mc⟩, st, sp, ca, t⟩ := c
  obtain ⟨va, vn, vc⟩ := v
  simp only [CallR.val, Sl.val] at HB HS
  unfold CallR.val Sl.val
  simp only
  rcases hkind with rfl | rfl
  · go_enter Try.func84, Try.ntmps84
    go_wp2_with fail
    refine (HS _).out.mono ?_
    rintro e w1 ⟨hf1, s1, ok1, r1, rfl, hr1, hown1⟩
    have hr2 : r1 = r := hr1.trans HR.out
    clear hr1
    subst hr2
    have hform : s1 = .slice none 0 0 ∧ r1 = [] ∨ ∃ g cap, s1 = .slice (some ⟨g, 0, none⟩) r1.length cap ∧ w.heap.size < g ∧ ∀ j v, (pairs r1)[j]? = some v → w1.cell? ⟨g, 0 + j, none⟩ = some v := by
      rcases hown1.2 with ⟨h1, h2⟩ | ⟨g, cap, cur, h1, h2, h3, h4, h5, h6, h7⟩
      · exact .inl ⟨h1, List.eq_nil_of_length_eq_zero h2⟩
      · refine .inr ⟨g, cap, h1, by simp at h2; omega, fun j v hj => ?_⟩
        have := hown1.cells (g := g) (by rw [h1]; rfl) j v hj
        simpa [Addr.add_lit] using this
    have hblk1 := (Blk.new w (.cells #[.slice aa an ac, .slice ma mn mc, .int .i64 st, .int .i64 sp, .int .i64 ca, .int .u64 t] 116)).fr hf1 (fun x => x)
    have hfr1 := ((Fr.refl Nil w).alloc (.cells #[.slice aa an ac, .slice ma mn mc, .int .i64 st, .int .i64 sp, .int .i64 ca, .int .u64 t] 116)).trans hf1
    clear hown1 hf1
    rcases hform with ⟨hs1, hr0⟩ | ⟨g, cap, hs1, hg, hcell⟩
    · rw [hs1]
      subst hr0
      clear hs1
      go_wp2_with fail
      refine wp_loop_rounds 1 ?_
      rw [rounds_succ]
      go_wp2_with fail
      go_ret
      exact ⟨hfr1, .slice none 0 0, rfl, World.ownsRow_nil _ _ _ _⟩
    · rw [hs1]
      clear hs1
      have HG := Lib.hid hg
      go_wp2_with fail
      have hsw := hfr1.size
      go_loopw [9, 49] (fun s i wr => ∃ k : Nat, k ≤ r1.length ∧ i = .int .i64 k ∧ wr.ownsRow w1.heap.size 82 5 s k (outCells (outsTold ⟨⟨aa, an, ac⟩, ⟨ma, mn, mc⟩, st, sp, ca, t⟩ 1 now (r1.take k))) ∧ Fr Nil w1 wr)
        (fun _ i _ => r1.length - (intOf i).toNat)
      case atStart => exact ⟨0, Nat.zero_le _, rfl, World.ownsRow_nil _ _ _ _, Fr.refl _ _⟩
      case round =>
        obtain ⟨k, hk, rfl, hown, hfr⟩ := hrel
        by_cases hlt : k < r1.length
        · have hp := pairs_get r1 k hlt
          have hgw : g < w1.heap.size := by
            have e := hcell _ _ hp.1
            exact World.block_lt_of_cell? w1 _ e
          have c0 := (cell_fr (o := 0 + k * 2) hfr hgw (fun x => x)).trans (hcell _ _ hp.1)
          have c1 := (cell_fr (o := 0 + (k * 2 + 1)) hfr hgw (fun x => x)).trans (hcell _ _ hp.2)
          simp only [Nat.zero_add] at c0 c1
          have hgr : g < wr.heap.size := Nat.lt_of_lt_of_le hgw hfr.size
          have hblk := hblk1.fr hfr (fun x => x)
          have d0 := hblk.cell 0
          have d1 := hblk.cell 1
          have d2 := hblk.cell 2
          have d3 := hblk.cell 3
          have d4 := hblk.cell 4
          have d5 := hblk.cell 5
          simp at d0 d1 d2 d3 d4 d5
          have hbl := hblk.lt
          have HS2 := Lib.hid (map_take_snoc (fun p : Int × Int => CallR.out ⟨⟨aa, an, ac⟩, ⟨ma, mn, mc⟩, st, sp, ca, t⟩ p.1 1 p.2 now) r1 k hlt)
          have HC := Lib.hid hcell
          clear hcell hp
          generalize hid : r1[k].1 = id at *
          generalize hvl : r1[k].2 = val at *
          go_wp2_with fail
          refine (HB _ id val).out.mono ?_
          rintro e w2 ⟨rfl, hf2⟩
          have hown2 := ownsRow_fr (hown.alloc (.cells #[.int .i64 id, .int .i64 val] 205)) hf2 (fun _ _ _ x => x)
          have hfr2 := (hfr.alloc (.cells #[.int .i64 id, .int .i64 val] 205)).trans hf2
          have hs2 := hfr2.size
          clear hown hblk hfr hf2 c0 c1 d0 d1 d2 d3 d4 d5
          simp only [CallR.out, Out.cells, List.toArray]
          go_wp2_with (at_builtin; refine wpList_append_lies _ rfl _ _ _ rfl w1.heap.size 82 i0 _ 5 40 Try.underlying41 hi0 hz0 hz1 hz2 rfl (by decide) _ _ _ rfl (hown2.alloc _) ⟨w2.heap.size, 0, none⟩ 1 1 [.int .i64 id, .int .i64 1, .int .i64 0, .int .i64 val, .int .u64 now] rfl rfl ?c1 ?c2 (by omega) (by unfold maxLen; omega) (by omega) ?c5 _ rfl ?c6)
          case c1 => exact World.news_of_block (cs := #[.int .i64 id, .int .i64 1, .int .i64 0, .int .i64 val, .int .u64 now]) (t := 82) (fr := (0, 0)) (heap_alloc_new _ _)
          case c2 => simp [Value.oneCell']
          case c5 => simp; omega
          case c6 =>
            intro g2 cap2 w3 hown3 hgrow _ _
            have hfr3 := (hfr2.alloc (.cells #[.int .i64 id, .int .i64 1, .int .i64 0, .int .i64 val, .int .u64 now] 82)).grown hgrow (fun k hk => .inl (hown2.lt k hk).1)
            have hown4 : w3.ownsRow w1.heap.size 82 5 (.slice (some ⟨g2, 0, none⟩) (k + 1) cap2) (k + 1) (outCells (outsTold ⟨⟨aa, an, ac⟩, ⟨ma, mn, mc⟩, st, sp, ca, t⟩ 1 now (r1.take (k + 1)))) := by
              rw [outsTold, HS2.out, outCells_snoc]
              exact hown3
            clear hown3 hgrow hown2 hfr2 hs2 HS2 hid hvl
            go_wp2_with fail
            go_roundw
            case rel => first | exact ⟨k + 1, by omega, by go_num, hown4, hfr3⟩ | ((repeat apply Exists.intro); exact ⟨⟨k + 1, by omega, by go_num, hown4, hfr3⟩, rfl⟩)
            case measure => simp [intOf]; omega
        · go_wp2_with fail
          go_ret
          obtain rfl : k = r1.length := by omega
          rw [List.take_length] at hown
          exact ⟨hfr1.trans hfr, _, rfl, by simpa [outsTold] using ownsRow_base hown hsw⟩
  · go_enter Try.func84, Try.ntmps84
    go_wp2_with fail
    refine (HS _).out.mono ?_
    rintro e w1 ⟨hf1, s1, ok1, r1, rfl, hr1, hown1⟩
    have hr2 : r1 = r := hr1.trans HR.out
    clear hr1
    subst hr2
    have hform : s1 = .slice none 0 0 ∧ r1 = [] ∨ ∃ g cap, s1 = .slice (some ⟨g, 0, none⟩) r1.length cap ∧ w.heap.size < g ∧ ∀ j v, (pairs r1)[j]? = some v → w1.cell? ⟨g, 0 + j, none⟩ = some v := by
      rcases hown1.2 with ⟨h1, h2⟩ | ⟨g, cap, cur, h1, h2, h3, h4, h5, h6, h7⟩
      · exact .inl ⟨h1, List.eq_nil_of_length_eq_zero h2⟩
      · refine .inr ⟨g, cap, h1, by simp at h2; omega, fun j v hj => ?_⟩
        have := hown1.cells (g := g) (by rw [h1]; rfl) j v hj
        simpa [Addr.add_lit] using this
    have hblk1 := (Blk.new w (.cells #[.slice aa an ac, .slice ma mn mc, .int .i64 st, .int .i64 sp, .int .i64 ca, .int .u64 t] 116)).fr hf1 (fun x => x)
    have hfr1 := ((Fr.refl Nil w).alloc (.cells #[.slice aa an ac, .slice ma mn mc, .int .i64 st, .int .i64 sp, .int .i64 ca, .int .u64 t] 116)).trans hf1
    clear hown1 hf1
    rcases hform with ⟨hs1, hr0⟩ | ⟨g, cap, hs1, hg, hcell⟩
    · rw [hs1]
      subst hr0
      clear hs1
      go_wp2_with fail
      refine wp_loop_rounds 1 ?_
      rw [rounds_succ]
      go_wp2_with fail
      go_ret
      exact ⟨hfr1, .slice none 0 0, rfl, World.ownsRow_nil _ _ _ _⟩
    · rw [hs1]
      clear hs1
      have HG := Lib.hid hg
      go_wp2_with fail
      have hsw := hfr1.size
      go_loopw [9, 49] (fun s i wr => ∃ k : Nat, k ≤ r1.length ∧ i = .int .i64 k ∧ wr.ownsRow w1.heap.size 82 5 s k (outCells (outsTold ⟨⟨aa, an, ac⟩, ⟨ma, mn, mc⟩, st, sp, ca, t⟩ 3 now (r1.take k))) ∧ Fr Nil w1 wr)
        (fun _ i _ => r1.length - (intOf i).toNat)
      case atStart => exact ⟨0, Nat.zero_le _, rfl, World.ownsRow_nil _ _ _ _, Fr.refl _ _⟩
      case round =>
        obtain ⟨k, hk, rfl, hown, hfr⟩ := hrel
        by_cases hlt : k < r1.length
        · have hp := pairs_get r1 k hlt
          have hgw : g < w1.heap.size := by
            have e := hcell _ _ hp.1
            exact World.block_lt_of_cell? w1 _ e
          have c0 := (cell_fr (o := 0 + k * 2) hfr hgw (fun x => x)).trans (hcell _ _ hp.1)
          have c1 := (cell_fr (o := 0 + (k * 2 + 1)) hfr hgw (fun x => x)).trans (hcell _ _ hp.2)
          simp only [Nat.zero_add] at c0 c1
          have hgr : g < wr.heap.size := Nat.lt_of_lt_of_le hgw hfr.size
          have hblk := hblk1.fr hfr (fun x => x)
          have d0 := hblk.cell 0
          have d1 := hblk.cell 1
          have d2 := hblk.cell 2
          have d3 := hblk.cell 3
          have d4 := hblk.cell 4
          have d5 := hblk.cell 5
          simp at d0 d1 d2 d3 d4 d5
          have hbl := hblk.lt
          have HS2 := Lib.hid (map_take_snoc (fun p : Int × Int => CallR.out ⟨⟨aa, an, ac⟩, ⟨ma, mn, mc⟩, st, sp, ca, t⟩ p.1 3 p.2 now) r1 k hlt)
          have HC := Lib.hid hcell
          clear hcell hp
          generalize hid : r1[k].1 = id at *
          generalize hvl : r1[k].2 = val at *
          go_wp2_with fail
          refine (HB _ id val).out.mono ?_
          rintro e w2 ⟨rfl, hf2⟩
          have hown2 := ownsRow_fr (hown.alloc (.cells #[.int .i64 id, .int .i64 val] 205)) hf2 (fun _ _ _ x => x)
          have hfr2 := (hfr.alloc (.cells #[.int .i64 id, .int .i64 val] 205)).trans hf2
          have hs2 := hfr2.size
          clear hown hblk hfr hf2 c0 c1 d0 d1 d2 d3 d4 d5
          simp only [CallR.out, Out.cells, List.toArray]
          go_wp2_with (at_builtin; refine wpList_append_lies _ rfl _ _ _ rfl w1.heap.size 82 i0 _ 5 40 Try.underlying41 hi0 hz0 hz1 hz2 rfl (by decide) _ _ _ rfl (hown2.alloc _) ⟨w2.heap.size, 0, none⟩ 1 1 [.int .i64 id, .int .i64 3, .int .i64 ca, .int .i64 val, .int .u64 now] rfl rfl ?c1 ?c2 (by omega) (by unfold maxLen; omega) (by omega) ?c5 _ rfl ?c6)
          case c1 => exact World.news_of_block (cs := #[.int .i64 id, .int .i64 3, .int .i64 ca, .int .i64 val, .int .u64 now]) (t := 82) (fr := (0, 0)) (heap_alloc_new _ _)
          case c2 => simp [Value.oneCell']
          case c5 => simp; omega
          case c6 =>
            intro g2 cap2 w3 hown3 hgrow _ _
            have hfr3 := (hfr2.alloc (.cells #[.int .i64 id, .int .i64 3, .int .i64 ca, .int .i64 val, .int .u64 now] 82)).grown hgrow (fun k hk => .inl (hown2.lt k hk).1)
            have hown4 : w3.ownsRow w1.heap.size 82 5 (.slice (some ⟨g2, 0, none⟩) (k + 1) cap2) (k + 1) (outCells (outsTold ⟨⟨aa, an, ac⟩, ⟨ma, mn, mc⟩, st, sp, ca, t⟩ 3 now (r1.take (k + 1)))) := by
              rw [outsTold, HS2.out, outCells_snoc]
              exact hown3
            clear hown3 hgrow hown2 hfr2 hs2 HS2 hid hvl
            go_wp2_with fail
            go_roundw
            case rel => first | exact ⟨k + 1, by omega, by go_num, hown4, hfr3⟩ | ((repeat apply Exists.intro); exact ⟨⟨k + 1, by omega, by go_num, hown4, hfr3⟩, rfl⟩)
            case measure => simp [intOf]; omega
        · go_wp2_with fail
          go_ret
          obtain rfl : k = r1.length := by omega
          rw [List.take_length] at hown
          exact ⟨hfr1.trans hfr, _, rfl, by simpa [outsTold] using ownsRow_base hown hsw⟩

end Go.Proofs.Ythnaieeaominjaa
