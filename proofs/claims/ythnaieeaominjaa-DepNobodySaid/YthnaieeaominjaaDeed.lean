/-
  Package dep: a deed in memory; set, stop.
-/
import Derived.Test.YthnaieeaominjaaKeep
import Derived.Test.YthnaieeaominjaaOrd
import Derived.Deep.AppendLies
namespace Go.Proofs.Ythnaieeaominjaa
open Go.RowKit
set_option linter.unusedVariables false
set_option linter.unusedSimpArgs false

theorem Try.info_act : (Try.prog.info? 80).map (fun i => (i.zero, i.size, i.bytes)) = some (some (.agg #[.bool false, .int .i64 0, .int .u64 0]), 3, 24) := by kernel_rfl

structure DAct where
  set : Bool
  id : Int
  due : Int
deriving DecidableEq
def DAct.cells (a : DAct) : List Value := [.bool a.set, .int .i64 a.id, .int .u64 a.due]
def actCells (l : List DAct) : List Value := l.flatMap DAct.cells
theorem actCells_snoc (l : List DAct) (a : DAct) : actCells (l ++ [a]) = actCells l ++ a.cells := by simp [actCells]

/-- What a deed bears. -/
structure Deed where
  acts : List DAct
  outs : List Out
  now : Int

def deedCells (d : Nat) (va vo : Value) (now : Int) : Array Value := #[.pointer (some ⟨d, 0, none⟩), va, vo, .int .u64 now]

structure DeedAt (w : World) (x d : Nat) (E : Deed) : Prop where
  rows : ∃ va vo, Blk w x (.cells (deedCells d va vo E.now) 113 (0, 0)) ∧ w.ownsRow (x + 1) 80 3 va E.acts.length (actCells E.acts) ∧
    w.ownsRow (x + 1) 82 5 vo E.outs.length (outCells E.outs) ∧ ∀ k, va.ownBlock = some k → vo.ownBlock ≠ some k
  now : U64 E.now

theorem DeedAt.lt {w : World} {x d : Nat} {E : Deed} (h : DeedAt w x d E) : x < w.heap.size := by obtain ⟨va, vo, hb, -⟩ := h.rows; exact hb.lt
theorem DeedAt.fr {S : Nat → Prop} {w w' : World} {x d : Nat} {E : Deed} (h : DeedAt w x d E) (f : Fr S w w') (hs : ∀ k, x ≤ k → k < w.heap.size → ¬ S k) : DeedAt w' x d E := by
  obtain ⟨va, vo, hb, ha, ho, hne⟩ := h.rows
  exact ⟨⟨va, vo, hb.fr f (hs x (Nat.le_refl _) hb.lt), ownsRow_fr ha f (fun k hk => hs k (by omega)), ownsRow_fr ho f (fun k hk => hs k (by omega)), hne⟩, h.now⟩

theorem ownsRow_own {S : Nat → Prop} {w w' : World} {base e size n : Nat} {v : Value} {xs : List Value} (h : w.ownsRow base e size v n xs) (f : Fr S w w') (hs : ∀ k, v.ownBlock = some k → ¬ S k) : w'.ownsRow base e size v n xs := by
  refine ⟨h.1, ?_⟩
  rcases h.2 with h | ⟨g, cap, cur, hv, hg, hh, r⟩
  · exact .inl h
  · have hlt := (Array.getElem?_eq_some_iff.1 hh).1
    exact .inr ⟨g, cap, cur, hv, hg, (f.block g hlt (hs g (by rw [hv]; rfl))).trans hh, r⟩

/-- What a deed may turn of what is older: nothing; what it makes lies from x on. -/
def From (x : Nat) : Nat → Prop := fun k => x ≤ k

/-- The blocks that a deed owns. -/
def DeedB (w : World) (x : Nat) : Nat → Prop := fun k => k = x ∨ ∃ j v, (j = 1 ∨ j = 2) ∧ w.cell? ⟨x, j, none⟩ = some v ∧ v.ownBlock = some k
theorem DeedAt.own_from {w : World} {x d k : Nat} {E : Deed} (h : DeedAt w x d E) (hk : DeedB w x k) : x ≤ k ∧ k < w.heap.size := by
  have hlt := h.lt
  obtain ⟨va, vo, hb, ha, ho, -⟩ := h.rows
  rcases hk with rfl | ⟨j, v, rfl | rfl, hc, he⟩
  · exact ⟨Nat.le_refl _, hlt⟩
  · rw [hb.cell] at hc
    obtain rfl : va = v := by simpa [deedCells] using hc
    have := ha.lt k he
    omega
  · rw [hb.cell] at hc
    obtain rfl : vo = v := by simpa [deedCells] using hc
    have := ho.lt k he
    omega
theorem From.fr_alloc {x : Nat} {w w' : World} (f : Fr (From x) w w') (o : Obj) : Fr (From x) w (w'.alloc o) := f.alloc o

/-- Behind an append to the acts (v: what is put into the deed's cell 1). -/
theorem DeedAt.acts_on {w w2 w3 : World} {x d g cap : Nat} {va vo : Value} {acts : List DAct} {outs : List Out} {now : Int} {a : DAct}
    (hb : Blk w x (.cells (deedCells d va vo now) 113 (0, 0))) (hra : w.ownsRow (x + 1) 80 3 va acts.length (actCells acts)) (hro : w.ownsRow (x + 1) 82 5 vo outs.length (outCells outs))
    (hne : ∀ k, va.ownBlock = some k → vo.ownBlock ≠ some k) (hn : U64 now) (f2 : Fr Nil w w2)
    (hown : w3.ownsRow (x + 1) 80 3 (.slice (some ⟨g, 0, none⟩) (acts.length + 1) cap) (acts.length + 1) (actCells acts ++ a.cells)) (hgrow : w2.grownBy w3 va.ownBlock) (hg : va.ownBlock = some g ∨ g = w2.heap.size) :
    DeedAt (w3.setCell ⟨x, 1, none⟩ (.slice (some ⟨g, 0, none⟩) (acts.length + 1) cap)) x d ⟨acts ++ [a], outs, now⟩ ∧ Fr (DeedB w x) w (w3.setCell ⟨x, 1, none⟩ (.slice (some ⟨g, 0, none⟩) (acts.length + 1) cap)) := by
  have f3 : Fr (fun k => va.ownBlock = some k) w2 w3 := ⟨hgrow.os, hgrow.tape, hgrow.output, hgrow.size, fun k hk hn => hgrow.block k hk (fun e => hn e.symm)⟩
  have hx3 : Blk w3 x (.cells (deedCells d va vo now) 113 (0, 0)) := (hb.fr f2 (fun x => x)).fr f3 (fun e => absurd (hra.lt x e).1 (by omega))
  have ho3 : w3.ownsRow (x + 1) 82 5 vo outs.length (outCells outs) := ownsRow_own (ownsRow_fr hro f2 (fun _ _ _ x => x)) f3 (fun k hk e => hne k e hk)
  have f4 : Fr (Only x) w3 (w3.setCell ⟨x, 1, none⟩ (.slice (some ⟨g, 0, none⟩) (acts.length + 1) cap)) := (Fr.refl _ _).setAt _ (Only.self _)
  refine ⟨⟨⟨.slice (some ⟨g, 0, none⟩) (acts.length + 1) cap, vo, ?_, ?_, ownsRow_fr ho3 f4 (fun k hk _ e => by unfold Only at e; omega), ?_⟩, hn⟩, ?_⟩
  · have := hx3.set 1 (.slice (some ⟨g, 0, none⟩) (acts.length + 1) cap)
    simpa [deedCells] using this
  · have := ownsRow_fr hown f4 (fun k hk _ e => by unfold Only at e; omega)
    simpa [actCells] using this
  · intro k hk e
    obtain rfl : g = k := by simpa [Value.ownBlock] using hk
    rcases hg with hg | hg
    · exact hne g hg e
    · have h1 := (hro.lt g e).2
      have h2 := f2.size
      omega
  · refine ((f2.mono (fun _ _ x => x.elim)).trans (f3.mono (fun k _ e => .inr ⟨1, va, .inl rfl, by rw [hb.cell]; rfl, e⟩))).trans (f4.mono (fun k _ e => .inl e))

def DeedPost (w : World) (x d : Nat) (v : Value) (E : Deed) (e : Ending) (w' : World) : Prop := e = .returned v ∧ DeedAt w' x d E ∧ Fr (DeedB w x) w w'

set_option maxRecDepth 100000 in
set_option maxHeartbeats 800000 in
theorem deed_set (x d : Nat) (E : Deed) (id later : Int) (w : World) (h : DeedAt w x d E) (hl : U64 later) (hn : E.acts.length ≤ 1000) :
    Calls Try.prog 71 #[.pointer (some ⟨x, 0, none⟩), .int .i64 id, .int .u64 later] w
      (DeedPost w x d (.tuple #[]) { E with acts := E.acts ++ [⟨true, id, sadd E.now later⟩] }) := by
  obtain ⟨i0, hi0, hz0, hz1, hz2⟩ := info_parts Try.info_act
  have hu := sadd_u64 h.now hl
  have HA := fun W => Lib.hid (sat_add E.now later W h.now hl)
  have HN := Lib.hid h.now
  obtain ⟨⟨va, vo, hb, hra, hro, hne⟩, -⟩ := h
  obtain ⟨acts, outs, now⟩ := E
  simp only at *
  generalize sadd now later = due at *
  have c0 := hb.cell 0
  have c1 := hb.cell 1
  have c3 := hb.cell 3
  have fz := hb.free 1
  simp [deedCells] at c0 c1 c3
  have hlt := hb.lt
  have hbA := (hb.drewN 1).alloc (.cells #[.bool true, .int .i64 id, .int .u64 due] 80)
  have c1' := hbA.cell 1
  have c3' := hbA.cell 3
  simp [deedCells] at c1' c3'
  clear hl hbA
  go_enter Try.func71, Try.ntmps71
  go_wp2_with fail
  refine region_ord (fun w' => w'.cell? ⟨x, 1, none⟩ = some va ∧ w'.cell? ⟨x, 3, none⟩ = some (.int .u64 now)) [(true, 0), (true, 1), (true, 2), (true, 3), (true, 4), (true, 5), (true, 6), (true, 7), (true, 8), (true, 9), (true, 10), (true, 11), (false, 12), (true, 13), (false, 14), (false, 15), (true, 16), (true, 17), (true, 18), (false, 19)] (by kernel_rfl) (by kernel_rfl) body_hQ ⟨c1, c3⟩ ?_
  simp only [opsAt, List.filterMap_cons, List.filterMap_nil, List.getElem?_toArray, List.getElem?_cons_zero, List.getElem?_cons_succ, Option.map_some]
  repeat ((refine seqS_take (v := ?_) rfl ?_ ?_); rotate_left; (focus (intro wS hS; go_split_ands; go_simp; first | done | with_reducible rfl)); (simp only [Act.put, List.setIfInBounds_toArray, List.set_cons_zero, List.set_cons_succ]))
  refine seqS_more ?_
  go_wp2_with fail
  refine (HA _).out.mono ?_
  rintro e w' ⟨rfl, rfl⟩
  go_wp2_with fail
  refine Thn.mk ⟨⟨c1, c3⟩, ?_⟩
  repeat ((refine seqS_take (v := ?_) rfl ?_ ?_); rotate_left; (focus (intro wS hS; go_split_ands; go_simp; first | done | with_reducible rfl)); (simp only [Act.put, List.setIfInBounds_toArray, List.set_cons_zero, List.set_cons_succ]))
  refine seqS_more ?_
  go_wp2_with fail
  refine Thn.mk ⟨⟨c1', c3'⟩, ?_⟩
  refine seqS_more ?_
  refine wpList_append_lies _ rfl _ _ _ rfl (x + 1) 80 i0 _ 3 24 Try.underlying60 hi0 hz0 hz1 hz2 rfl (by decide) _ _ _ rfl (World.ownsRow.alloc (w := w.drewN 1) hra _) ⟨w.heap.size, 0, none⟩ 1 1 [.bool true, .int .i64 id, .int .u64 due] rfl rfl ?c1 ?c2 (by omega) (by unfold maxLen; omega) (by omega) ?c5 _ rfl ?c6
  case c1 => exact World.news_of_block (cs := #[.bool true, .int .i64 id, .int .u64 due]) (t := 80) (fr := (0, 0)) (heap_alloc_new (w.drewN 1) _)
  case c2 => simp [Value.oneCell']
  case c5 => simp; omega
  case c6 =>
    intro g cap w3 hown3 hgrow hg _
    have hA := Lib.hid (DeedAt.acts_on (a := ⟨true, id, due⟩) hb hra hro hne HN.out (((Fr.refl Nil w).drewN 1).alloc (.cells #[.bool true, .int .i64 id, .int .u64 due] 80)) hown3 hgrow hg)
    have hb3 := ((hb.drewN 1).alloc (.cells #[.bool true, .int .i64 id, .int .u64 due] 80)).grown hgrow (own_ne_old hra (Nat.lt_succ_self _))
    have d1 := hb3.cell 1
    have d3 := hb3.cell 3
    have fz3 := hb3.free 1
    simp [deedCells] at d1 d3
    clear hown3 hgrow hg hb3 c0 c1 c3 fz hb hra hro hne
    refine wpList_nil (Thn.mk ⟨⟨d1, d3⟩, ?_⟩)
    repeat ((refine seqS_take (v := ?_) rfl ?_ ?_); rotate_left; (focus (intro wS hS; go_split_ands; go_simp; first | done | with_reducible rfl)); (simp only [Act.put, List.setIfInBounds_toArray, List.set_cons_zero, List.set_cons_succ]))
    refine seqS_last ?_
    go_wp2_with fail
    go_end0
    exact ⟨rfl, hA.out.1, hA.out.2⟩

set_option maxRecDepth 100000 in
set_option maxHeartbeats 800000 in
theorem deed_stop (x d : Nat) (E : Deed) (id : Int) (w : World) (h : DeedAt w x d E) (hn : E.acts.length ≤ 1000) :
    Calls Try.prog 46 #[.pointer (some ⟨x, 0, none⟩), .int .i64 id] w
      (DeedPost w x d (.tuple #[]) { E with acts := E.acts ++ [⟨false, id, 0⟩] }) := by
  obtain ⟨i0, hi0, hz0, hz1, hz2⟩ := info_parts Try.info_act
  have HN := Lib.hid h.now
  obtain ⟨⟨va, vo, hb, hra, hro, hne⟩, -⟩ := h
  obtain ⟨acts, outs, now⟩ := E
  simp only at *
  have c1 := hb.cell 1
  simp [deedCells] at c1
  have hlt := hb.lt
  go_enter Try.func46, Try.ntmps46
  go_wp2_with (at_builtin; refine wpList_append_lies _ rfl _ _ _ rfl (x + 1) 80 i0 _ 3 24 Try.underlying60 hi0 hz0 hz1 hz2 rfl (by decide) _ _ _ rfl (hra.alloc _) ⟨w.heap.size, 0, none⟩ 1 1 [.bool false, .int .i64 id, .int .u64 0] rfl rfl ?c1 ?c2 (by omega) (by unfold maxLen; omega) (by omega) ?c5 _ rfl ?c6)
  case c1 => exact World.news_of_block (cs := #[.bool false, .int .i64 id, .int .u64 0]) (t := 80) (fr := (0, 0)) (heap_alloc_new _ _)
  case c2 => simp [Value.oneCell']
  case c5 => simp; omega
  case c6 =>
    intro g cap w3 hown3 hgrow hg _
    have hA := Lib.hid (DeedAt.acts_on (a := ⟨false, id, 0⟩) hb hra hro hne HN.out ((Fr.refl Nil w).alloc (.cells #[.bool false, .int .i64 id, .int .u64 0] 80)) hown3 hgrow (by rw [World.size_alloc]; exact hg))
    have hb3 := (hb.alloc (.cells #[.bool false, .int .i64 id, .int .u64 0] 80)).grown hgrow (own_ne_old hra (Nat.lt_succ_self _))
    have d1 := hb3.cell 1
    have fz3 := hb3.free 1
    simp [deedCells] at d1
    clear hown3 hgrow hg hb3 c1 hb hra hro hne
    go_wp2_with fail
    go_end0
    exact ⟨rfl, hA.out.1, hA.out.2⟩

end Go.Proofs.Ythnaieeaominjaa
