/-
  Package dep: fall.
-/
import Derived.Test.YthnaieeaominjaaEnd
namespace Go.Proofs.Ythnaieeaominjaa
open Go.RowKit
set_option linter.unusedVariables false
set_option linter.unusedSimpArgs false

/-- A call falls, step by step, as long as there is no permit. -/
def fallGo (s : PSet) (id cause chain : Int) : Nat → CallR → Bool → PSet × CallR × Bool
  | _, r, false => (s, r, false)
  | 0, r, true => (s, r, true)
  | n + 1, r, true => if (s.take (id, r.step)).1 then ((s.take (id, r.step)).2, r, true) else fallGo s id cause chain n (r.fail cause chain).1 (r.fail cause chain).2
def Dp.fell (D : Dp) (c : Cl) (cause : Int) : PSet × CallR × Bool :=
  fallGo D.falls (leadOf c.ml) cause D.cf.chain ((D.cf.chain - (c.r.fail cause D.cf.chain).1.step).toNat + 1) (c.r.fail cause D.cf.chain).1 (c.r.fail cause D.cf.chain).2
def Dp.fall (D : Dp) (c : Cl) (cause : Int) : Dp := Dp.keep { D with falls := (D.fell c cause).1 } (c.with_ (D.fell c cause).2.1)
def Deed.fall (E : Deed) (D : Dp) (c : Cl) (cause : Int) : Deed :=
  if (D.fell c cause).2.2 then { E with acts := E.acts ++ [⟨true, leadOf c.ml, sadd E.now D.cf.fbt⟩] } else { E with outs := E.outs ++ outsFail (D.fell c cause).2.1 E.now c.ml }

theorem fail_args (c : CallR) (cause chain : Int) : (c.fail cause chain).1.Kin c := by
  unfold CallR.fail
  split
  · split <;> (unfold CallR.failed; split) <;> refine ⟨rfl, rfl, ?_, rfl⟩ <;> simp only <;> omega
  · exact .refl _
theorem fail_step (c : CallR) (cause chain : Int) : c.step ≤ (c.fail cause chain).1.step ∧ ((c.fail cause chain).2 = true → (c.fail cause chain).1.step = c.step + 1 ∧ c.step < chain) := by
  have hf : (c.failed cause).step = c.step := by unfold CallR.failed; split <;> rfl
  unfold CallR.fail
  split
  · split
    · simp [hf]
    · simp; omega
  · simp
theorem fallGo_false (s : PSet) (id cause chain : Int) (n : Nat) (r : CallR) : fallGo s id cause chain n r false = (s, r, false) := by cases n <;> rfl
theorem outsFail_len (c : CallR) (now : Int) (l : List (Int × Int)) : (outsFail c now l).length = l.length := by simp [outsFail]
theorem XAt.fall_on {w : World} {x : Nat} {i : DepIds} {E : Deed} {D : Dp} (h : XAt w x i E D) : 0 ≤ D.cf.chain ∧ D.cf.chain ≤ 3 := h.dep.chain

/-- Where a call falls: its box, and what it comes to. -/
def FallAt (w0 : World) (x : Nat) (i : DepIds) (E : Deed) (D : Dp) (c : Cl) (cause : Int) (p : Nat) (RES : PSet × CallR × Bool) (more : Bool) (wr : World) : Prop :=
  ∃ (r : CallR) (n : Nat), Blk wr p (.cells r.cells 116 (0, 0)) ∧ XAt wr x i E D ∧ Fr i.S w0 wr ∧ fallGo D.falls (leadOf c.ml) cause D.cf.chain n r more = RES ∧ (more = true → r.step ≤ D.cf.chain ∧ (D.cf.chain - r.step).toNat < n) ∧
    (-9223372036854775808 ≤ r.step) ∧ r.Kin c.r

/-- How many rounds are left, at most. -/
def fallMz (chain : Int) (p : Nat) (t : Value) (w : World) : Nat :=
  match t with
  | .bool true => match w.cell? ⟨p, 3, none⟩ with | some (.int _ s) => (chain - s).toNat + 1 | _ => 0
  | _ => 0
theorem fallMz_true {chain s : Int} {p : Nat} {w : World} {k : IntKind} (h : w.cell? ⟨p, 3, none⟩ = some (.int k s)) : fallMz chain p (.bool true) w = (chain - s).toNat + 1 := by simp [fallMz, h]
theorem fallMz_less {chain s s' : Int} {p : Nat} {w w' : World} {m : Bool} (h : w.cell? ⟨p, 3, none⟩ = some (.int .i64 s)) (h' : w'.cell? ⟨p, 3, none⟩ = some (.int .i64 s')) (hs : m = true → s' = s + 1 ∧ s < chain) :
    fallMz chain p (.bool m) w' < fallMz chain p (.bool true) w := by
  rw [fallMz_true h]
  cases m
  · simp [fallMz]
  · rw [fallMz_true h']
    have := hs rfl
    omega

set_option maxRecDepth 100000 in
set_option maxHeartbeats 6400000 in
theorem deed_fall (x : Nat) (i : DepIds) (E : Deed) (D : Dp) (c : Cl) (cause : Int) (w : World) (h : XAt w x i E D) (hc : c.At w i.M) (ha : E.acts.length ≤ 1000) (hn : E.outs.length ≤ 1000000) :
    Calls Try.prog 48 #[.pointer (some ⟨x, 0, none⟩), c.r.val, .int .i64 cause] w (XPost w x i (.tuple #[]) (E.fall D c cause) (D.fall c cause)) := by
  have hxl := h.deed.lt
  have hch := h.dep.chain
  have hst : -9223372036854775808 ≤ c.r.step := by have := hc.step; omega
  have HF := fun W (r : CallR) hr => Lib.hid (call_fail r cause D.cf.chain W hr (by omega))
  have HL : ∀ W, Fr Nil w W → Hid (Calls Try.prog 38 #[.agg #[c.r.args.val, c.r.members.val]] W fun e w' => e = .returned (.int .i64 (leadOf c.ml)) ∧ Fr Nil W w') := fun W f =>
    Lib.hid (batch_lead i.M c.r.args c.r.members c.ml W (hc.members.fr f (fun _ _ x => x.elim)))
  have HX := Lib.hid h
  have HC := Lib.hid hc
  have HDD := Lib.hid (show D.fall c cause = Dp.keep { D with falls := (D.fell c cause).1 } (c.with_ (D.fell c cause).2.1) from rfl)
  have HEE := Lib.hid (show E.fall D c cause = if (D.fell c cause).2.2 then { E with acts := E.acts ++ [⟨true, leadOf c.ml, sadd E.now D.cf.fbt⟩] } else { E with outs := E.outs ++ outsFail (D.fell c cause).2.1 E.now c.ml } from rfl)
  have HRES := Lib.hid (show D.fell c cause = fallGo D.falls (leadOf c.ml) cause D.cf.chain ((D.cf.chain - (c.r.fail cause D.cf.chain).1.step).toNat + 1) (c.r.fail cause D.cf.chain).1 (c.r.fail cause D.cf.chain).2 from rfl)
  generalize D.fell c cause = RES at *
  generalize E.fall D c cause = EE at *
  generalize D.fall c cause = DD at *
  have hfa := fail_args c.r cause D.cf.chain
  have hfs := fail_step c.r cause D.cf.chain
  have hF0 := fun W => HF W c.r hst
  generalize hid : leadOf c.ml = id at *
  have HID := Lib.hid hid
  generalize hf1 : (c.r.fail cause D.cf.chain).1 = r1 at *
  generalize hf2 : (c.r.fail cause D.cf.chain).2 = m1 at *
  have HFA := Lib.hid hfa
  have HFS := Lib.hid hfs
  have HCH := Lib.hid hch
  have HTake := fun (r : CallR) W hW => Lib.hid (permit_take i.fs i.fm D.falls (id, r.step) W hW)
  unfold hkey at HTake
  simp only at HTake
  have hrc : c.r = ⟨⟨c.r.args.at_, c.r.args.len, c.r.args.cap⟩, ⟨c.r.members.at_, c.r.members.len, c.r.members.cap⟩, c.r.state, c.r.step, c.r.cause, c.r.start⟩ := rfl
  clear h hc hf1 hf2 hid hrc hfa hfs hch
  obtain ⟨i0, hi0, hz0, hz1, hz2⟩ := info_parts Try.info_out
  unfold CallR.val Sl.val
  go_enter Try.func48, Try.ntmps48
  go_wp2_with fail
  refine (HL _ ((Fr.refl _ _).alloc _)).out.mono ?_
  rintro e w1 ⟨rfl, hf1⟩
  have g1 : Fr Nil w w1 := ((Fr.refl _ _).alloc _).trans hf1
  have hbx := (Blk.new w (.cells c.r.cells 116)).fr hf1 (fun x => x)
  have h1 := HX.out.nil g1
  have hs1 : BaseS x i E.now D.cf D.probe (w1.drewN 1) := (h1.drewN 1).baseS
  unfold CallR.cells Sl.val at hbx
  have p0 := hbx.cell 0
  have q0 := hbx.free 0
  have p1 := hbx.cell 1
  have q1 := hbx.free 1
  have p2 := hbx.cell 2
  have q2 := hbx.free 2
  have p3 := hbx.cell 3
  have q3 := hbx.free 3
  have p4 := hbx.cell 4
  have q4 := hbx.free 4
  have p5 := hbx.cell 5
  have q5 := hbx.free 5
  simp at p0 p1 p2 p3 p4 p5
  go_wp2_with fail
  refine region_ord (BaseS x i E.now D.cf D.probe) [(true, 1), (true, 2), (true, 3), (true, 4), (true, 5), (true, 6), (true, 7), (true, 8), (true, 9), (false, 0), (false, 10), (true, 11), (true, 12), (true, 13), (false, 14), (false, 15)] (by kernel_rfl) (by kernel_rfl) (fun _ _ d _ _ h => by cases d <;> exact h) hs1 ?_
  simp only [opsAt, List.filterMap_cons, List.filterMap_nil, List.getElem?_toArray, List.getElem?_cons_zero, List.getElem?_cons_succ, Option.map_some]
  repeat ((refine seqS_take (v := ?_) rfl ?_ ?_); rotate_left; (focus (intro wS hS; unfold BaseS at hS; go_split_ands; go_simp; first | done | with_reducible rfl)); (simp only [Act.put, List.setIfInBounds_toArray, List.set_cons_zero, List.set_cons_succ]))
  refine seqS_more ?_
  go_wp2_with fail
  refine Thn.mk ⟨hs1, ?_⟩
  refine seqS_more ?_
  go_wp2_with fail
  refine (hF0 _).out.mono ?_
  rintro e w2 ⟨rfl, hf2⟩
  have hbx2 := (hbx.drewN 1).fr hf2 (fun x => x)
  have g2 : Fr Nil w w2 := (g1.drewN 1).trans hf2
  have hs2 : BaseS x i E.now D.cf D.probe w2 := (HX.out.nil g2).baseS
  clear p0 p1 p2 p3 p4 p5 q0 q1 q2 q3 q4 q5
  clear hbx hf1 hf2 h1 hs1 HL hF0
  have p0 := hbx2.cell 0
  have q0 := hbx2.free 0
  have p1 := hbx2.cell 1
  have q1 := hbx2.free 1
  have p2 := hbx2.cell 2
  have q2 := hbx2.free 2
  have p3 := hbx2.cell 3
  have q3 := hbx2.free 3
  have p4 := hbx2.cell 4
  have q4 := hbx2.free 4
  have p5 := hbx2.cell 5
  have q5 := hbx2.free 5
  simp at p0 p1 p2 p3 p4 p5
  obtain ⟨⟨ra, rn, rc⟩, ⟨na, nn, nc⟩, st1, sp1, ca1, t1⟩ := r1
  unfold CallR.val Sl.val
  simp only
  go_wp2_with fail
  refine Thn.mk ⟨hs2, ?_⟩
  repeat ((refine seqS_take (v := ?_) rfl ?_ ?_); rotate_left; (focus (intro wS hS; unfold BaseS at hS; go_split_ands; go_simp; first | done | with_reducible rfl)); (simp only [Act.put, List.setIfInBounds_toArray, List.set_cons_zero, List.set_cons_succ]))
  refine seqS_more ?_
  go_wp2_with fail
  obtain ⟨hbx3, fp⟩ := put_blk rfl ra na rn rc nn nc st1 sp1 ca1 t1 hbx2
  generalize ((((((w2.setCell ⟨w.heap.size, 0, none⟩ (.slice ra rn rc)).setCell ⟨w.heap.size, 1, none⟩ (.slice na nn nc)).setCell ⟨w.heap.size, 2, none⟩ (.int .i64 st1)).setCell ⟨w.heap.size, 3, none⟩ (.int .i64 sp1)).setCell ⟨w.heap.size, 4, none⟩ (.int .i64 ca1)).setCell ⟨w.heap.size, 5, none⟩ (.int .u64 t1)) = w3 at *
  have g3 : Fr Nil w w3 := g2.step fp (fun k hk e => by unfold Only at e; omega)
  have hs3 : BaseS x i E.now D.cf D.probe w3 := (HX.out.nil g3).baseS
  have hA : FallAt w x i E D c cause w.heap.size RES m1 w3 := by
    refine ⟨⟨⟨ra, rn, rc⟩, ⟨na, nn, nc⟩, st1, sp1, ca1, t1⟩, _, hbx3, HX.out.nil g3, g3.mono (fun _ _ e => e.elim), by rw [HID.out]; exact HRES.out.symm, ?_, ?_, HFA.out⟩
    · intro hm
      have := HFS.out.2 hm
      simp only
      omega
    · have := HFS.out.1
      simp only
      omega
  clear p0 p1 p2 p3 p4 p5 q0 q1 q2 q3 q4 q5
  clear hbx2 hbx3 fp g3 g2 hs2 HRES HFA HFS
  refine Thn.mk ⟨hs3, ?_⟩
  refine seqS_last ?_
  go_wp2_with fail
  clear hs3
  go_loopw [7] (fun t wr => ∃ m : Bool, t = .bool m ∧ FallAt w x i E D c cause w.heap.size RES m wr) (fun t wr => fallMz D.cf.chain w.heap.size t wr)
  case atStart => exact ⟨m1, rfl, hA⟩
  case round =>
    obtain ⟨m, rfl, hA⟩ := hrel
    obtain ⟨⟨⟨ra, rn, rc⟩, ⟨na, nn, nc⟩, st1, sp1, ca1, t1⟩, n, hbx, hx, hfr, hgo, hlt, hrs, hra⟩ := hA
    simp only at hlt hrs
    have hs1 : BaseS x i E.now D.cf D.probe wr := hx.baseS
    have HRA := Lib.hid hra
    have HGO := Lib.hid hgo
    clear hgo hra
    cases m
    · have HR := Lib.hid (show RES = (D.falls, ⟨⟨ra, rn, rc⟩, ⟨na, nn, nc⟩, st1, sp1, ca1, t1⟩, false) by rw [← HGO.out, fallGo_false])
      clear hlt HGO
      go_wp2_with fail
      refine region_ord (BaseC x i E.now D.cf D.probe w.heap.size ⟨⟨ra, rn, rc⟩, ⟨na, nn, nc⟩, st1, sp1, ca1, t1⟩) [(true, 0), (true, 1), (true, 2), (true, 3), (true, 4), (true, 5), (true, 6), (true, 7), (true, 8), (true, 9), (true, 10), (true, 11), (true, 12), (false, 13), (true, 14), (false, 15)] (by kernel_rfl) (by kernel_rfl) (fun _ _ d _ _ h => by cases d <;> exact h) ⟨hs1, callS hbx⟩ ?_
      simp only [opsAt, List.filterMap_cons, List.filterMap_nil, List.getElem?_toArray, List.getElem?_cons_zero, List.getElem?_cons_succ, Option.map_some]
      repeat (first | ((refine seqS_take (v := ?_) rfl ?_ ?_); rotate_left; (focus (intro wS hS; (try unfold BaseC BaseS CallS at hS); go_split_ands; go_simp; first | done | with_reducible rfl)); (simp only [Act.put, List.setIfInBounds_toArray, List.set_cons_zero, List.set_cons_succ])) | ((refine seqS_skip rfl ?_); (simp only [Act.put, List.setIfInBounds_toArray, List.set_cons_zero, List.set_cons_succ])))
      refine seqS_more ?_
      go_wp2_with fail
      refine Thn.mk ⟨⟨hs1, callS hbx⟩, ?_⟩
      repeat (first | ((refine seqS_take (v := ?_) rfl ?_ ?_); rotate_left; (focus (intro wS hS; (try unfold BaseC BaseS CallS at hS); go_split_ands; go_simp; first | done | with_reducible rfl)); (simp only [Act.put, List.setIfInBounds_toArray, List.set_cons_zero, List.set_cons_succ])) | ((refine seqS_skip rfl ?_); (simp only [Act.put, List.setIfInBounds_toArray, List.set_cons_zero, List.set_cons_succ])))
      refine seqS_last ?_
      go_wp2_with fail
      have hxA := hx.drewN 1
      have hbxA := hbx.drewN 1
      have hfrA := hfr.drewN 1
      clear hx hbx hfr hs1
      generalize wr.drewN 1 = wA at *
      obtain ⟨va, vo, hb0, hra0, hro0, hne⟩ := HX.out.deed.rows
      have hb := hb0.fr hfrA (fun e => Nat.lt_irrefl _ (HX.out.below x e))
      have hra := ownsRow_fr hra0 hfrA (fun k hk _ e => by have := HX.out.below k e; omega)
      have hro := ownsRow_fr hro0 hfrA (fun k hk _ e => by have := HX.out.below k e; omega)
      clear hb0 hra0
      have HMA := HC.out.members.fr (hfrA.drewN 1) (fun _ _ e => .inl e)
      rw [← HRA.out.members] at HMA
      have HOut := Lib.hid (call_outs_failed i.M ⟨⟨ra, rn, rc⟩, ⟨na, nn, nc⟩, st1, sp1, ca1, t1⟩ c.ml (.slice none 0 0) E.now (wA.drewN 1) HMA)
      have hml := HC.out.members.2.2.1
      have hol := Nat.le_of_eq (outsFail_len ⟨⟨ra, rn, rc⟩, ⟨na, nn, nc⟩, st1, sp1, ca1, t1⟩ E.now c.ml)
      have HNews := Lib.hid (show EE = { E with outs := E.outs ++ outsFail ⟨⟨ra, rn, rc⟩, ⟨na, nn, nc⟩, st1, sp1, ca1, t1⟩ E.now c.ml } by rw [HEE.out, HR.out]; rfl)
      generalize outsFail ⟨⟨ra, rn, rc⟩, ⟨na, nn, nc⟩, st1, sp1, ca1, t1⟩ E.now c.ml = news at *
      have hwp : w.heap.size ≠ x := by omega
      have hpA := hbxA.lt
      clear HMA
      refine region_ord (OutS x w.heap.size vo E.now ⟨⟨ra, rn, rc⟩, ⟨na, nn, nc⟩, st1, sp1, ca1, t1⟩) [(true, 0), (true, 1), (true, 2), (true, 3), (true, 4), (true, 5), (true, 6), (true, 7), (true, 8), (true, 9), (true, 10), (false, 11), (false, 12), (true, 13), (true, 14), (true, 15), (false, 16)] (by kernel_rfl) (by kernel_rfl) (fun _ _ d _ _ h => by cases d <;> exact h) (outS hbxA hb) ?_
      simp only [opsAt, List.filterMap_cons, List.filterMap_nil, List.getElem?_toArray, List.getElem?_cons_zero, List.getElem?_cons_succ, Option.map_some]
      repeat ((refine seqS_take (v := ?_) rfl ?_ ?_); rotate_left; (focus (intro wS hS; unfold OutS CallS at hS; go_split_ands; go_simp; first | done | with_reducible rfl)); (simp only [Act.put, List.setIfInBounds_toArray, List.set_cons_zero, List.set_cons_succ]))
      refine seqS_more ?_
      unfold Sl.val
      simp only
      go_wp2_with fail
      refine HOut.out.mono ?_
      rintro e w3 ⟨hf3, s, rfl, hown⟩
      have g3 : Fr Nil wA w3 := ((Fr.refl Nil wA).drewN 1).trans hf3
      have hb3 := hb.fr g3 (fun x => x)
      have hbx3 := hbxA.fr g3 (fun x => x)
      have hro3 := ownsRow_fr hro g3 (fun _ _ _ x => x)
      have hs3 := g3.size
      have hxs := hxA.deed.lt
      go_wp2_with fail
      refine Thn.mk ⟨outS hbx3 hb3, ?_⟩
      refine seqS_more ?_
      refine wpList_append_rows (w := w3) rfl _ _ _ rfl (x + 1) _ 82 i0 _ 5 40 Try.underlying41 hi0 hz0 hz1 hz2 rfl (by decide) vo s _ _ _ _ rfl rfl hro3 hown (outCells_one _) (by unfold maxLen; omega) (by omega) (by omega) ?_
      intro A cap w4 hown4 hgrow hg
      obtain ⟨hdeed, hfrom⟩ := DeedAt.outs_on hb hra hro hne HX.out.deed.now g3 hown4 hgrow hg
      have hb4 := hb3.grown hgrow (fun e => absurd (hro.lt x e).1 (by omega))
      have hbx4 := hbx3.grown hgrow (fun e => absurd (hro0.lt w.heap.size e).2 (by omega))
      have hbx5 := hbx4.set_ne (a := ⟨x, 2, none⟩) (.slice A (E.outs.length + news.length) cap) (by simp; omega)
      have d2 := hb4.cell 2
      have fz2 := hb4.free 2
      simp [deedCells] at d2
      have h5 : XAt (w4.setCell ⟨x, 2, none⟩ (.slice A (E.outs.length + news.length) cap)) x i EE D := by
        rw [HNews.out]
        exact hxA.deed_on hdeed hfrom
      have hs4 := outS (c := ⟨⟨ra, rn, rc⟩, ⟨na, nn, nc⟩, st1, sp1, ca1, t1⟩) hbx4 hb4
      have HF5 := Lib.hid ((hfrA.depT (x := x)).trans hfrom.fromT)
      have H5 := Lib.hid h5
      have HBX := Lib.hid hbx5
      clear hbx3 hbx4 hbx5 hbxA hb3 hb4 hro3 hown hown4 hgrow hg hdeed hfrom h5 hb hra hro hro0 hne HOut hfrA hxA g3 hf3
      refine wpList_nil (Thn.mk ⟨hs4, ?_⟩)
      repeat ((refine seqS_take (v := ?_) rfl ?_ ?_); rotate_left; (focus (intro wS hS; unfold OutS CallS at hS; go_split_ands; go_simp; first | done | with_reducible rfl)); (simp only [Act.put, List.setIfInBounds_toArray, List.set_cons_zero, List.set_cons_succ]))
      refine seqS_last ?_
      go_wp2_with fail
      generalize w4.setCell ⟨x, 2, none⟩ (.slice A (E.outs.length + news.length) cap) = w5 at *
      clear d2 fz2 hs4
      have hs5 : BaseS x i EE.now D.cf D.probe w5 := H5.out.baseS
      have HK := dep_keep i D _ (w5.drewN 1) (H5.out.drewN 1).dep ((HC.out.with_ (r := ⟨⟨ra, rn, rc⟩, ⟨na, nn, nc⟩, st1, sp1, ca1, t1⟩) HRA.out).fr (HF5.out.drewN 1) (fun b _ e => e.elim .inl (fun e => .inr (.inr (Nat.le_trans HX.out.lim e)))))
      unfold Cl.with_ CallR.val Sl.val at HK
      simp only at HK
      have HK2 := Lib.hid HK
      clear HK
      refine region_ord (BaseC x i EE.now D.cf D.probe w.heap.size ⟨⟨ra, rn, rc⟩, ⟨na, nn, nc⟩, st1, sp1, ca1, t1⟩) [(true, 0), (true, 1), (true, 2), (true, 3), (true, 4), (false, 5)] (by kernel_rfl) (by kernel_rfl) (fun _ _ d _ _ h => by cases d <;> exact h) ⟨hs5, callS HBX.out⟩ ?_
      simp only [opsAt, List.filterMap_cons, List.filterMap_nil, List.getElem?_toArray, List.getElem?_cons_zero, List.getElem?_cons_succ, Option.map_some]
      repeat ((refine seqS_take (v := ?_) rfl ?_ ?_); rotate_left; (focus (intro wS hS; unfold BaseC BaseS CallS at hS; go_split_ands; go_simp; first | done | with_reducible rfl)); (simp only [Act.put, List.setIfInBounds_toArray, List.set_cons_zero, List.set_cons_succ]))
      refine seqS_last ?_
      unfold Sl.val
      simp only
      go_wp2_with fail
      refine HK2.out.mono ?_
      rintro e w6 ⟨rfl, hd6, hf6⟩
      have h6 := Lib.hid (H5.out.dep_on hd6 (((Fr.refl _ _).drewN 1).trans hf6))
      have F6 := Lib.hid (HF5.out.trans ((((Fr.refl _ _).drewN 1).trans hf6).depT (x := x)))
      clear hd6 hf6 HK2 hs5
      go_wp2_with fail
      go_end0
      refine ⟨rfl, ?_, F6.out⟩
      rw [HDD.out, HR.out]
      exact h6.out
    · obtain ⟨hle, hln⟩ := hlt rfl
      obtain ⟨n, rfl⟩ : ∃ n', n = n' + 1 := ⟨n - 1, by omega⟩
      clear hlt
      have HT := HTake ⟨⟨ra, rn, rc⟩, ⟨na, nn, nc⟩, st1, sp1, ca1, t1⟩ (wr.drewN 1) (hx.drewN 1).dep.falls
      simp only at HT
      have hpx : x ≤ w.heap.size := by omega
      have hnp : ¬ i.S w.heap.size := fun e => by have := HX.out.below _ e; omega
      cases htk : (D.falls.take (id, sp1)).1
      · rw [htk, take_same htk] at HT
        have HG := Lib.hid (show fallGo D.falls id cause D.cf.chain n (CallR.fail ⟨⟨ra, rn, rc⟩, ⟨na, nn, nc⟩, st1, sp1, ca1, t1⟩ cause D.cf.chain).1 (CallR.fail ⟨⟨ra, rn, rc⟩, ⟨na, nn, nc⟩, st1, sp1, ca1, t1⟩ cause D.cf.chain).2 = RES by
          rw [← HGO.out, HID.out]; simp only [fallGo]; rw [htk]; rfl)
        have hfs := fail_step ⟨⟨ra, rn, rc⟩, ⟨na, nn, nc⟩, st1, sp1, ca1, t1⟩ cause D.cf.chain
        have hfa := fail_args ⟨⟨ra, rn, rc⟩, ⟨na, nn, nc⟩, st1, sp1, ca1, t1⟩ cause D.cf.chain
        have HF1 := fun W => HF W ⟨⟨ra, rn, rc⟩, ⟨na, nn, nc⟩, st1, sp1, ca1, t1⟩ hrs
        generalize (CallR.fail ⟨⟨ra, rn, rc⟩, ⟨na, nn, nc⟩, st1, sp1, ca1, t1⟩ cause D.cf.chain).1 = r9 at *
        generalize (CallR.fail ⟨⟨ra, rn, rc⟩, ⟨na, nn, nc⟩, st1, sp1, ca1, t1⟩ cause D.cf.chain).2 = m9 at *
        simp only at hfs
        have HFS := Lib.hid hfs
        have HFA := Lib.hid hfa
        clear htk HGO hfs hfa
        go_wp2_with fail
        refine region_ord (BaseC x i E.now D.cf D.probe w.heap.size ⟨⟨ra, rn, rc⟩, ⟨na, nn, nc⟩, st1, sp1, ca1, t1⟩) [(true, 0), (true, 1), (true, 2), (true, 3), (true, 4), (true, 5), (true, 6), (true, 7), (true, 8), (true, 9), (true, 10), (true, 11), (true, 12), (false, 13), (true, 14), (false, 15)] (by kernel_rfl) (by kernel_rfl) (fun _ _ d _ _ h => by cases d <;> exact h) ⟨hs1, callS hbx⟩ ?_
        simp only [opsAt, List.filterMap_cons, List.filterMap_nil, List.getElem?_toArray, List.getElem?_cons_zero, List.getElem?_cons_succ, Option.map_some]
        repeat (first | ((refine seqS_take (v := ?_) rfl ?_ ?_); rotate_left; (focus (intro wS hS; (try unfold BaseC BaseS CallS at hS); go_split_ands; go_simp; first | done | with_reducible rfl)); (simp only [Act.put, List.setIfInBounds_toArray, List.set_cons_zero, List.set_cons_succ])) | ((refine seqS_skip rfl ?_); (simp only [Act.put, List.setIfInBounds_toArray, List.set_cons_zero, List.set_cons_succ])))
        refine seqS_more ?_
        go_wp2_with fail
        refine HT.out.mono ?_
        rintro e w1 ⟨rfl, hset, hf1⟩
        have hx1 : XAt w1 x i E D := (hx.drewN 1).dep_on ((hx.drewN 1).dep.upd_falls hset hf1) (Only.inS (a := 7) (f := hf1))
        have hfr1 : Fr i.S w w1 := (hfr.drewN 1).trans (Only.inS (a := 7) (f := hf1))
        have hbx1 := (hbx.drewN 1).fr (Only.inS (a := 7) (f := hf1)) hnp
        have hc3 := hbx.cell 3
        unfold CallR.cells at hc3
        simp at hc3
        have HC3 := Lib.hid hc3
        clear hx hfr hbx hs1 hset hf1 HT hc3
        have hs1 : BaseS x i E.now D.cf D.probe w1 := hx1.baseS
        go_wp2_with fail
        refine Thn.mk ⟨⟨hs1, callS hbx1⟩, ?_⟩
        repeat (first | ((refine seqS_take (v := ?_) rfl ?_ ?_); rotate_left; (focus (intro wS hS; (try unfold BaseC BaseS CallS at hS); go_split_ands; go_simp; first | done | with_reducible rfl)); (simp only [Act.put, List.setIfInBounds_toArray, List.set_cons_zero, List.set_cons_succ])) | ((refine seqS_skip rfl ?_); (simp only [Act.put, List.setIfInBounds_toArray, List.set_cons_zero, List.set_cons_succ])))
        refine seqS_last ?_
        go_wp2_with fail
        unfold CallR.cells at hbx1
        simp only at hbx1
        unfold Sl.val at hbx1
        simp only at hbx1
        have p0 := hbx1.cell 0
        have q0 := hbx1.free 0
        have p1 := hbx1.cell 1
        have q1 := hbx1.free 1
        have p2 := hbx1.cell 2
        have q2 := hbx1.free 2
        have p3 := hbx1.cell 3
        have q3 := hbx1.free 3
        have p4 := hbx1.cell 4
        have q4 := hbx1.free 4
        have p5 := hbx1.cell 5
        have q5 := hbx1.free 5
        simp at p0 p1 p2 p3 p4 p5
        refine region_ord (BaseS x i E.now D.cf D.probe) [(true, 1), (true, 2), (true, 3), (true, 4), (true, 5), (true, 6), (true, 7), (true, 8), (true, 9), (false, 0), (false, 10), (true, 11), (true, 12), (true, 13), (false, 14), (false, 15)] (by kernel_rfl) (by kernel_rfl) (fun _ _ d _ _ h => by cases d <;> exact h) hs1 ?_
        simp only [opsAt, List.filterMap_cons, List.filterMap_nil, List.getElem?_toArray, List.getElem?_cons_zero, List.getElem?_cons_succ, Option.map_some]
        repeat ((refine seqS_take (v := ?_) rfl ?_ ?_); rotate_left; (focus (intro wS hS; unfold BaseS at hS; go_split_ands; go_simp; first | done | with_reducible rfl)); (simp only [Act.put, List.setIfInBounds_toArray, List.set_cons_zero, List.set_cons_succ]))
        refine seqS_more ?_
        go_wp2_with fail
        refine Thn.mk ⟨hs1, ?_⟩
        refine seqS_more ?_
        go_wp2_with fail
        refine (HF1 _).out.mono ?_
        rintro e w2 ⟨rfl, hf2⟩
        have hbx2 := (hbx1.drewN 1).fr hf2 (fun x => x)
        have g2 : Fr Nil w1 w2 := ((Fr.refl Nil w1).drewN 1).trans hf2
        have hs2 : BaseS x i E.now D.cf D.probe w2 := (hx1.nil g2).baseS
        clear p0 p1 p2 p3 p4 p5 q0 q1 q2 q3 q4 q5
        clear hf2 hs1 HF1
        have p0 := hbx2.cell 0
        have q0 := hbx2.free 0
        have p1 := hbx2.cell 1
        have q1 := hbx2.free 1
        have p2 := hbx2.cell 2
        have q2 := hbx2.free 2
        have p3 := hbx2.cell 3
        have q3 := hbx2.free 3
        have p4 := hbx2.cell 4
        have q4 := hbx2.free 4
        have p5 := hbx2.cell 5
        have q5 := hbx2.free 5
        simp at p0 p1 p2 p3 p4 p5
        obtain ⟨⟨rb, ro, rd⟩, ⟨nb, no, nd⟩, st2, sp2, ca2, t2⟩ := r9
        unfold CallR.val Sl.val
        simp only
        go_wp2_with fail
        refine Thn.mk ⟨hs2, ?_⟩
        repeat ((refine seqS_take (v := ?_) rfl ?_ ?_); rotate_left; (focus (intro wS hS; unfold BaseS at hS; go_split_ands; go_simp; first | done | with_reducible rfl)); (simp only [Act.put, List.setIfInBounds_toArray, List.set_cons_zero, List.set_cons_succ]))
        refine seqS_more ?_
        go_wp2_with fail
        obtain ⟨hbx3, fp⟩ := put_blk rfl rb nb ro rd no nd st2 sp2 ca2 t2 hbx2
        generalize ((((((w2.setCell ⟨w.heap.size, 0, none⟩ (.slice rb ro rd)).setCell ⟨w.heap.size, 1, none⟩ (.slice nb no nd)).setCell ⟨w.heap.size, 2, none⟩ (.int .i64 st2)).setCell ⟨w.heap.size, 3, none⟩ (.int .i64 sp2)).setCell ⟨w.heap.size, 4, none⟩ (.int .i64 ca2)).setCell ⟨w.heap.size, 5, none⟩ (.int .u64 t2)) = w3 at *
        have f13 : Fr (Only w.heap.size) w1 w3 := (g2.mono (fun _ _ e => e.elim)).trans fp
        have hfr3 : Fr i.S w w3 := hfr1.step f13 (fun k hk e => by unfold Only at e; omega)
        have hx3 : XAt w3 x i E D := ⟨HX.out.deed.fr hfr3 (fun k hk _ e => by have := HX.out.below k e; omega), hx1.dep.fr f13 (fun k hk e => by unfold Only at e; exact hnp (e ▸ hk)) (fun b _ e => by unfold Only at e; exact .inr (.inr (by have := HX.out.lim; omega))), HX.out.below, HX.out.lim⟩
        have hs3 : BaseS x i E.now D.cf D.probe w3 := hx3.baseS
        have hc3 := hbx3.cell 3
        simp at hc3
        have HC4 := Lib.hid hc3
        have hA : FallAt w x i E D c cause w.heap.size RES m9 w3 := by
          refine ⟨⟨⟨rb, ro, rd⟩, ⟨nb, no, nd⟩, st2, sp2, ca2, t2⟩, n, hbx3, hx3, hfr3, by rw [HID.out]; exact HG.out, ?_, ?_, HFA.out.trans HRA.out⟩
          · intro hm
            have := HFS.out.2 hm
            simp only
            omega
          · have := HFS.out.1
            simp only
            omega
        have hM := fallMz_less (m := m9) (chain := D.cf.chain) HC3.out HC4.out HFS.out.2
        have HM := Lib.hid hM
        clear hM hc3 f13 hfr3 hx3 fp g2 hbx1 hbx2 hbx3 hx1 hfr1 hs2
        clear p0 p1 p2 p3 p4 p5 q0 q1 q2 q3 q4 q5
        refine Thn.mk ⟨hs3, ?_⟩
        refine seqS_last ?_
        clear hs3
        go_wp2_with fail
        go_roundw
        case rel => first | exact ⟨m9, rfl, hA⟩ | ((repeat apply Exists.intro); exact ⟨⟨m9, rfl, hA⟩, rfl⟩)
        case measure => exact HM.out
      · rw [htk] at HT
        generalize hs' : (D.falls.take (id, sp1)).2 = s' at HT
        have HR := Lib.hid (show RES = (s', ⟨⟨ra, rn, rc⟩, ⟨na, nn, nc⟩, st1, sp1, ca1, t1⟩, true) by
          rw [← HGO.out, HID.out]; simp only [fallGo]; rw [htk, hs']; rfl)
        clear htk HGO hs'
        go_wp2_with fail
        refine region_ord (BaseC x i E.now D.cf D.probe w.heap.size ⟨⟨ra, rn, rc⟩, ⟨na, nn, nc⟩, st1, sp1, ca1, t1⟩) [(true, 0), (true, 1), (true, 2), (true, 3), (true, 4), (true, 5), (true, 6), (true, 7), (true, 8), (true, 9), (true, 10), (true, 11), (true, 12), (false, 13), (true, 14), (false, 15)] (by kernel_rfl) (by kernel_rfl) (fun _ _ d _ _ h => by cases d <;> exact h) ⟨hs1, callS hbx⟩ ?_
        simp only [opsAt, List.filterMap_cons, List.filterMap_nil, List.getElem?_toArray, List.getElem?_cons_zero, List.getElem?_cons_succ, Option.map_some]
        repeat (first | ((refine seqS_take (v := ?_) rfl ?_ ?_); rotate_left; (focus (intro wS hS; (try unfold BaseC BaseS CallS at hS); go_split_ands; go_simp; first | done | with_reducible rfl)); (simp only [Act.put, List.setIfInBounds_toArray, List.set_cons_zero, List.set_cons_succ])) | ((refine seqS_skip rfl ?_); (simp only [Act.put, List.setIfInBounds_toArray, List.set_cons_zero, List.set_cons_succ])))
        refine seqS_more ?_
        go_wp2_with fail
        refine HT.out.mono ?_
        rintro e w1 ⟨rfl, hset, hf1⟩
        have hx1 : XAt w1 x i E { D with falls := s' } := (hx.drewN 1).dep_on ((hx.drewN 1).dep.upd_falls hset hf1) (Only.inS (a := 7) (f := hf1))
        have hfr1 : Fr i.S w w1 := (hfr.drewN 1).trans (Only.inS (a := 7) (f := hf1))
        have hbx1 := (hbx.drewN 1).fr (Only.inS (a := 7) (f := hf1)) hnp
        clear hx hfr hbx hs1 hset hf1 HT
        have hs1 : BaseS x i E.now D.cf D.probe w1 := hx1.baseS
        go_wp2_with fail
        refine Thn.mk ⟨⟨hs1, callS hbx1⟩, ?_⟩
        repeat (first | ((refine seqS_take (v := ?_) rfl ?_ ?_); rotate_left; (focus (intro wS hS; (try unfold BaseC BaseS CallS at hS); go_split_ands; go_simp; first | done | with_reducible rfl)); (simp only [Act.put, List.setIfInBounds_toArray, List.set_cons_zero, List.set_cons_succ])) | ((refine seqS_skip rfl ?_); (simp only [Act.put, List.setIfInBounds_toArray, List.set_cons_zero, List.set_cons_succ])))
        refine seqS_last ?_
        have q1 := hs1
        unfold BaseS at q1
        obtain ⟨x0, -, -, -, -, -, -, -, -, -, -, d9, -⟩ := q1
        have hdB : ∀ k, DeedB w1 x k → k ≠ w.heap.size := fun k hk e => by
          subst e
          obtain ⟨va, vo, hb, hra, hro, -⟩ := HX.out.deed.rows
          have hb1 := hb.fr hfr1 (fun e => by have := HX.out.below x e; omega)
          rcases hk with e | ⟨j, v, rfl | rfl, hc, he⟩
          · omega
          · rw [hb1.cell] at hc
            obtain rfl : va = v := by simpa [deedCells] using hc
            have := hra.lt _ he
            omega
          · rw [hb1.cell] at hc
            obtain rfl : vo = v := by simpa [deedCells] using hc
            have := hro.lt _ he
            omega
        have HSet := Lib.hid (deed_set x i.d E id D.cf.fbt w1 hx1.deed hx1.dep.typed.fbt ha)
        have HNews := Lib.hid (show EE = { E with acts := E.acts ++ [⟨true, id, sadd E.now D.cf.fbt⟩] } by rw [HEE.out, HR.out]; rfl)
        go_wp2_with fail
        refine HSet.out.mono ?_
        rintro e w2 ⟨rfl, hd2, hf2⟩
        have hbx2 := hbx1.fr hf2 (fun e => hdB _ e rfl)
        have hfrom : Fr (From x) w1 w2 := hf2.mono (fun k _ e => (hx1.deed.own_from e).1)
        have h2 : XAt w2 x i EE { D with falls := s' } := by
          rw [HNews.out]
          exact hx1.deed_on hd2 hfrom
        have HF5 := Lib.hid ((hfr1.depT (x := x)).trans hfrom.fromT)
        have H5 := Lib.hid h2
        have HBX := Lib.hid hbx2
        clear hs1 x0 d9 hdB hbx1 hbx2 hfrom h2 hd2 hf2 hx1 hfr1 HSet
        go_wp2_with fail
        have hs5 : BaseS x i EE.now D.cf D.probe w2 := H5.out.baseS
        have HK := dep_keep i _ _ (w2.drewN 1) (H5.out.drewN 1).dep ((HC.out.with_ (r := ⟨⟨ra, rn, rc⟩, ⟨na, nn, nc⟩, st1, sp1, ca1, t1⟩) HRA.out).fr (HF5.out.drewN 1) (fun b _ e => e.elim .inl (fun e => .inr (.inr (Nat.le_trans HX.out.lim e)))))
        unfold Cl.with_ CallR.val Sl.val at HK
        simp only at HK
        have HK2 := Lib.hid HK
        clear HK
        refine region_ord (BaseC x i EE.now D.cf D.probe w.heap.size ⟨⟨ra, rn, rc⟩, ⟨na, nn, nc⟩, st1, sp1, ca1, t1⟩) [(true, 0), (true, 1), (true, 2), (true, 3), (true, 4), (false, 5)] (by kernel_rfl) (by kernel_rfl) (fun _ _ d _ _ h => by cases d <;> exact h) ⟨hs5, callS HBX.out⟩ ?_
        simp only [opsAt, List.filterMap_cons, List.filterMap_nil, List.getElem?_toArray, List.getElem?_cons_zero, List.getElem?_cons_succ, Option.map_some]
        repeat ((refine seqS_take (v := ?_) rfl ?_ ?_); rotate_left; (focus (intro wS hS; unfold BaseC BaseS CallS at hS; go_split_ands; go_simp; first | done | with_reducible rfl)); (simp only [Act.put, List.setIfInBounds_toArray, List.set_cons_zero, List.set_cons_succ]))
        refine seqS_last ?_
        unfold Sl.val
        simp only
        go_wp2_with fail
        refine HK2.out.mono ?_
        rintro e w6 ⟨rfl, hd6, hf6⟩
        have h6 := Lib.hid (H5.out.dep_on hd6 (((Fr.refl _ _).drewN 1).trans hf6))
        have F6 := Lib.hid (HF5.out.trans ((((Fr.refl _ _).drewN 1).trans hf6).depT (x := x)))
        clear hd6 hf6 HK2 hs5
        go_wp2_with fail
        go_end0
        refine ⟨rfl, ?_, F6.out⟩
        rw [HDD.out, HR.out]
        exact h6.out

end Go.Proofs.Ythnaieeaominjaa
