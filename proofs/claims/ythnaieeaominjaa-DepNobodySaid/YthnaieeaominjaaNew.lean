/-
  Package dep: New.
-/
import Derived.Test.YthnaieeaominjaaCheck
import Derived.Test.YthnaieeaominjaaDep
import Derived.Test.YthnaieeaominjaaTree
namespace Go.Proofs.Ythnaieeaominjaa
open Go.RowKit
set_option linter.unusedVariables false
set_option linter.unusedSimpArgs false

def Dp.new (c : Cf) : Dp := ⟨c, ⟨1, 0, c.sleep, c.force⟩, ⟨⟨c.most, []⟩, ⟨c.line, []⟩⟩, ⟨c.fb, []⟩, newGrid 6 c.bkts.toNat c.width, [], 0⟩

theorem Blk.ne_type {w : World} {p q : Nat} {c d : Array Value} {T U : TypeId} {y z : Nat × Nat} (h : Blk w p (.cells c T y)) (g : Blk w q (.cells d U z)) (hT : T ≠ U) : p ≠ q := fun e => by
  subst e; unfold Blk at h g; rw [h] at g; injection g with g; injection g with g1 g2 g3; exact hT g2
theorem Blk.ne_map {w : World} {p q : Nat} {c : Array Value} {T : TypeId} {y : Nat × Nat} {l : List (Value × Value)} (h : Blk w p (.cells c T y)) (g : MapAt w q l) : p ≠ q := fun e => by
  subst e; obtain ⟨es, k, g, -⟩ := g; unfold Blk at h g; rw [h] at g; injection g with g; cases g

theorem depAt_new {w : World} {i : DepIds} {c : Cf} (hcells : Blk w i.d (.cells (i.cells c 0) 100 (0, 0))) (hb : BrkAt w i.brk ⟨1, 0, c.sleep, c.force⟩) (hk : BulkAt w i.bulk ⟨⟨c.most, []⟩, ⟨c.line, []⟩⟩) (hf : SetAt w i.fs i.fm ⟨c.fb, []⟩)
    (hw : GridAt 6 154 w i.win (newGrid 6 c.bkts.toNat c.width)) (hhist : HistAt w i.hist) (hm : MapAt w i.calls []) (n1 : i.bulk.s ≠ i.fs) (n2 : i.bulk.m ≠ i.fm) (n3 : i.bulk.m ≠ i.calls) (n4 : i.fm ≠ i.calls) (ht : c.Typed) (hc : 0 ≤ c.chain ∧ c.chain ≤ 3) :
    DepAt w i (Dp.new c) := by
  obtain ⟨g, hh⟩ := hhist
  obtain ⟨rr, hr0, -⟩ := hk.2.2.1
  have hr := hr0.1
  refine ⟨hcells, hb, hk, hf, hw, ⟨g, hh⟩, ⟨hm, fun p hp => by cases hp⟩, ?_, ht, hc⟩
  simp only [DepIds.all, List.nodup_cons, List.mem_cons, List.not_mem_nil, not_or, not_false_eq_true, and_true, List.nodup_nil, true_and]
  exact ⟨⟨(Blk.ne_type hcells hb.1 (by decide)), (Blk.ne_type hcells hk.1 (by decide)), (Blk.ne_type hcells hk.2.1.1 (by decide)), (Blk.ne_map hcells hk.2.1.2.1), (Blk.ne_type hcells hr (by decide)), (Blk.ne_type hcells hf.1 (by decide)), (Blk.ne_map hcells hf.2.1), (Blk.ne_type hcells hw.1 (by decide)), (Blk.ne_type hcells hh.1 (by decide)), (Blk.ne_map hcells hm)⟩, ⟨(Blk.ne_type hb.1 hk.1 (by decide)), (Blk.ne_type hb.1 hk.2.1.1 (by decide)), (Blk.ne_map hb.1 hk.2.1.2.1), (Blk.ne_type hb.1 hr (by decide)), (Blk.ne_type hb.1 hf.1 (by decide)), (Blk.ne_map hb.1 hf.2.1), (Blk.ne_type hb.1 hw.1 (by decide)), (Blk.ne_type hb.1 hh.1 (by decide)), (Blk.ne_map hb.1 hm)⟩, ⟨(Blk.ne_type hk.1 hk.2.1.1 (by decide)), (Blk.ne_map hk.1 hk.2.1.2.1), (Blk.ne_type hk.1 hr (by decide)), (Blk.ne_type hk.1 hf.1 (by decide)), (Blk.ne_map hk.1 hf.2.1), (Blk.ne_type hk.1 hw.1 (by decide)), (Blk.ne_type hk.1 hh.1 (by decide)), (Blk.ne_map hk.1 hm)⟩, ⟨(Blk.ne_map hk.2.1.1 hk.2.1.2.1), (Blk.ne_type hk.2.1.1 hr (by decide)), (n1), (Blk.ne_map hk.2.1.1 hf.2.1), (Blk.ne_type hk.2.1.1 hw.1 (by decide)), (Blk.ne_type hk.2.1.1 hh.1 (by decide)), (Blk.ne_map hk.2.1.1 hm)⟩, ⟨((Blk.ne_map hr hk.2.1.2.1).symm), ((Blk.ne_map hf.1 hk.2.1.2.1).symm), (n2), ((Blk.ne_map hw.1 hk.2.1.2.1).symm), ((Blk.ne_map hh.1 hk.2.1.2.1).symm), (n3)⟩, ⟨(Blk.ne_type hr hf.1 (by decide)), (Blk.ne_map hr hf.2.1), (Blk.ne_type hr hw.1 (by decide)), (Blk.ne_type hr hh.1 (by decide)), (Blk.ne_map hr hm)⟩, ⟨(Blk.ne_map hf.1 hf.2.1), (Blk.ne_type hf.1 hw.1 (by decide)), (Blk.ne_type hf.1 hh.1 (by decide)), (Blk.ne_map hf.1 hm)⟩, ⟨((Blk.ne_map hw.1 hf.2.1).symm), ((Blk.ne_map hh.1 hf.2.1).symm), (n4)⟩, ⟨(Blk.ne_type hw.1 hh.1 (by decide)), (Blk.ne_map hw.1 hm)⟩, (Blk.ne_map hh.1 hm)⟩

def CfS (p : Nat) (c : Cf) (w : World) : Prop := w.cell? ⟨p, 0, none⟩ = some (.int .i64 c.mode) ∧ w.cell? ⟨p, 1, none⟩ = some (.int .i64 c.pool) ∧ w.cell? ⟨p, 2, none⟩ = some (.int .i64 c.queue) ∧ w.cell? ⟨p, 3, none⟩ = some (.int .i64 c.sem) ∧ w.cell? ⟨p, 4, none⟩ = some (.int .i64 c.fb) ∧ w.cell? ⟨p, 5, none⟩ = some (.int .i64 c.chain) ∧ w.cell? ⟨p, 6, none⟩ = some (.int .u64 c.tmo) ∧ w.cell? ⟨p, 7, none⟩ = some (.int .u64 c.fbt) ∧ w.cell? ⟨p, 8, none⟩ = some (.int .i64 c.vol) ∧ w.cell? ⟨p, 9, none⟩ = some (.int .i64 c.pct) ∧ w.cell? ⟨p, 10, none⟩ = some (.int .u64 c.sleep) ∧ w.cell? ⟨p, 11, none⟩ = some (.int .i64 c.bkts) ∧ w.cell? ⟨p, 12, none⟩ = some (.int .u64 c.width) ∧ w.cell? ⟨p, 13, none⟩ = some (.int .u64 c.win) ∧ w.cell? ⟨p, 14, none⟩ = some (.int .i64 c.bat) ∧ w.cell? ⟨p, 15, none⟩ = some (.int .i64 c.force)
theorem cfS {w : World} {p : Nat} {c : Cf} {T : TypeId} {z : Nat × Nat} (h : Blk w p (.cells c.cells T z)) : CfS p c w := ⟨by rw [h.cell]; rfl, by rw [h.cell]; rfl, by rw [h.cell]; rfl, by rw [h.cell]; rfl, by rw [h.cell]; rfl, by rw [h.cell]; rfl, by rw [h.cell]; rfl, by rw [h.cell]; rfl, by rw [h.cell]; rfl, by rw [h.cell]; rfl, by rw [h.cell]; rfl, by rw [h.cell]; rfl, by rw [h.cell]; rfl, by rw [h.cell]; rfl, by rw [h.cell]; rfl, by rw [h.cell]; rfl⟩

theorem wrap_in {x a b : Int} (hx : U64 x) (ha : 0 ≤ a) (h : a ≤ wrap64 x ∧ wrap64 x ≤ b) : a ≤ x ∧ x ≤ b := by
  unfold U64 at hx
  unfold wrap64 at h
  omega

/-- What a configuration that may be is. -/
structure Cf.Fine (c : Cf) : Prop where
  mode : c.mode = 1 ∨ c.mode = 2
  most : 0 ≤ c.most ∧ c.most ≤ 8
  line : 0 ≤ c.line ∧ c.line ≤ 8
  fb : 0 ≤ c.fb ∧ c.fb ≤ 4
  chain : 0 ≤ c.chain ∧ c.chain ≤ 3
  bkts : 1 ≤ c.bkts ∧ c.bkts ≤ 8
  width : 1 ≤ c.width ∧ c.width ≤ 1099511627776
  vol : 1 ≤ c.vol ∧ c.vol ≤ 1000
  force : 0 ≤ c.force ∧ c.force ≤ 2
theorem okAt_iff (c : Cf) (k : Nat) : c.okAt k = true ↔ (c.bounds.getD k (0, 0)).1 ≤ c.put.getD k 0 ∧ c.put.getD k 0 ≤ (c.bounds.getD k (0, 0)).2 := by
  unfold Cf.okAt; rw [Bool.and_eq_true, decide_eq_true_eq, decide_eq_true_eq]
theorem good_fine {c : Cf} (ht : c.Typed) (h : c.good = true) : c.Fine := by
  rw [Cf.good, List.all_eq_true] at h
  have H := fun k hk => (okAt_iff c k).1 (h k (List.mem_range.2 hk))
  have h0 := H 0 (by omega)
  have h1 := H 1 (by omega)
  have h2 := H 2 (by omega)
  have h3 := H 3 (by omega)
  have h4 := H 4 (by omega)
  have h5 := H 5 (by omega)
  have h8 := H 8 (by omega)
  have h11 := H 11 (by omega)
  have h12 := H 12 (by omega)
  have h15 := H 15 (by omega)
  simp [Cf.bounds, Cf.put] at h0 h1 h2 h3 h4 h5 h8 h11 h12 h15
  have hm : c.mode = 1 ∨ c.mode = 2 := by omega
  refine ⟨hm, ?_, ?_, h4, h5, h11, wrap_in ht.width (by omega) h12, h8, h15⟩
  · unfold Cf.most
    rcases hm with e | e <;> simp [e] at h1 h3 ⊢ <;> omega
  · unfold Cf.line
    rcases hm with e | e <;> simp [e] at h2 ⊢ <;> omega

def NewPost (w : World) (c : Cf) (e : Ending) (w' : World) : Prop :=
  ∃ i : DepIds, e = .returned (.pointer (some ⟨i.d, 0, none⟩)) ∧ (∀ L X, DepAt w' { i with lim := L, ex := X } (Dp.new c)) ∧ (∀ k, i.S k → w.heap.size ≤ k) ∧ Fr Nil w w'

set_option maxRecDepth 100000 in
set_option maxHeartbeats 1600000 in
theorem dep_new_bad (c : Cf) (w : World) (hg : c.good = false) : Calls Try.prog 8 #[c.val] w fun e w' => e = .returned (.pointer none) ∧ Fr Nil w w' := by
  have HCk := fun W => Lib.hid (conf_check c W)
  unfold CheckPost at HCk
  rw [hg] at HCk
  unfold Cf.val at HCk
  unfold Cf.cells at HCk
  have g0 : Fr Nil w (w.alloc (.cells c.cells 24)) := (Fr.refl _ _).alloc _
  unfold Cf.cells at g0
  unfold Cf.val Cf.cells
  clear hg
  go_enter Try.func8, Try.ntmps8
  go_wp2_with fail
  refine (HCk _).out.mono ?_
  rintro e w0 ⟨⟨n, rfl⟩, hf0⟩
  have G := g0.trans hf0
  go_wp2_with fail
  go_ret
  exact ⟨rfl, G⟩

set_option maxRecDepth 100000 in
set_option maxHeartbeats 1600000 in
theorem exec_load_conf {a : Act} {o : Oper} {s : Operand} {p : Nat} {c : Cf} {w : World} (ho : o.op = .load 24 s) (hs : a.eval s = .pointer (some ⟨p, 0, none⟩)) (h : CfS p c w) :
    (execOp a.eval o).run Try.prog w = .ok (.value (.agg #[.int .i64 c.mode, .int .i64 c.pool, .int .i64 c.queue, .int .i64 c.sem, .int .i64 c.fb, .int .i64 c.chain, .int .u64 c.tmo, .int .u64 c.fbt, .int .i64 c.vol, .int .i64 c.pct, .int .u64 c.sleep, .int .i64 c.bkts, .int .u64 c.width, .int .u64 c.win, .int .i64 c.bat, .int .i64 c.force])) w := by
  unfold CfS at h
  obtain ⟨h0, h1, h2, h3, h4, h5, h6, h7, h8, h9, h10, h11, h12, h13, h14, h15⟩ := h
  unfold execOp
  simp only [ho, hs]
  go_simp

/-- All parts are there: the dependency itself is laid. -/
theorem new_leaf {w W : World} {c : Cf} {pb ps pm pw ph cm : Nat} {ik : BulkIds} (hc : c.Fine) (ht : c.Typed) (hB : BrkAt W pb ⟨1, 0, c.sleep, c.force⟩) (hK : BulkAt W ik ⟨⟨c.most, []⟩, ⟨c.line, []⟩⟩) (hF : SetAt W ps pm ⟨c.fb, []⟩) (hW : GridAt 6 154 W pw (newGrid 6 c.bkts.toNat c.width)) (hH : HistAt W ph) (hM : MapAt W cm [])
    (n1 : ik.s ≠ ps) (n2 : ik.m ≠ pm) (n3 : ik.m ≠ cm) (n4 : pm ≠ cm) (G : Fr Nil w W)
    (hge : w.heap.size ≤ pb ∧ w.heap.size ≤ ik.b ∧ w.heap.size ≤ ik.s ∧ w.heap.size ≤ ik.m ∧ w.heap.size ≤ ik.r ∧ w.heap.size ≤ ps ∧ w.heap.size ≤ pm ∧ w.heap.size ≤ pw ∧ w.heap.size ≤ ph ∧ w.heap.size ≤ cm) :
    NewPost w c (.returned (.pointer (some ⟨W.heap.size, 0, none⟩))) (W.alloc (.cells (DepIds.cells ⟨W.heap.size, pb, ik, ps, pm, pw, ph, cm, 0, fun _ => False⟩ c 0) 100)) := by
  have f : Fr Nil W (W.alloc (.cells (DepIds.cells ⟨W.heap.size, pb, ik, ps, pm, pw, ph, cm, 0, fun _ => False⟩ c 0) 100)) := (Fr.refl _ _).alloc _
  refine ⟨⟨W.heap.size, pb, ik, ps, pm, pw, ph, cm, 0, fun _ => False⟩, rfl, fun L X => ?_, ?_, G.alloc _⟩
  · exact depAt_new (i := ⟨W.heap.size, pb, ik, ps, pm, pw, ph, cm, L, X⟩) (Blk.new W _) (hB.fr f (fun x => x)) (hK.nil f) (hF.fr f (fun x => x) (fun x => x)) (hW.fr f (fun x => x)) (hH.fr f (fun x => x)) (hM.fr f (fun x => x)) n1 n2 n3 n4 ht hc.chain
  · intro k hk
    have := G.size
    simp only [DepIds.S, DepIds.all, List.mem_cons, List.not_mem_nil, or_false] at hk
    rcases hk with rfl | rfl | rfl | rfl | rfl | rfl | rfl | rfl | rfl | rfl | rfl <;> omega

set_option maxRecDepth 100000 in
set_option maxHeartbeats 12800000 in
theorem dep_new (c : Cf) (w : World) (ht : c.Typed) (hg : c.good = true) : Calls Try.prog 8 #[c.val] w (NewPost w c) := by
  have hfine := Lib.hid (good_fine ht hg)
  have htyp := Lib.hid ht
  have HCk := fun W => Lib.hid (conf_check c W)
  unfold CheckPost at HCk
  rw [hg] at HCk
  have HNB := fun W => Lib.hid (brk_new c W ht.sleep)
  have HNK := fun W => Lib.hid (bulk_new c W hfine.out.mode hfine.out.most.1 hfine.out.most.2 hfine.out.line.1 hfine.out.line.2)
  have hfb := hfine.out.fb
  have HNF := fun W => Lib.hid (permit_new c.fb W hfb.1 (by omega))
  have HNW := fun W => Lib.hid (window_new c.bkts c.width W hfine.out.bkts.1 hfine.out.bkts.2 hfine.out.width.1 hfine.out.width.2)
  have HNH := fun W => Lib.hid (hist_new c.bkts c.width W hfine.out.bkts.1 hfine.out.bkts.2 hfine.out.width.1 hfine.out.width.2)
  have hmm := @run_makeMap Try.prog
  have hbx0 := Blk.new w (.cells c.cells 24)
  unfold Cf.val at HCk HNB HNK
  unfold Cf.cells at HCk HNB HNK hbx0
  have g0 : Fr Nil w (w.alloc (.cells c.cells 24)) := (Fr.refl _ _).alloc _
  unfold Cf.cells at g0
  unfold Cf.val Cf.cells
  clear ht hg hfb
  go_enter Try.func8, Try.ntmps8
  go_wp2_with fail
  refine (HCk _).out.mono ?_
  rintro e w0 ⟨⟨n, rfl⟩, hf0⟩
  have hbx := (hbx0.fr hf0 (fun x => x)).drewN 1
  have G := (g0.trans hf0).drewN 1
  clear hbx0 g0 hf0 HCk
  go_wp2_with fail
  refine region_plan (CfS w.heap.size c) (.take 0 (.take 2 (.take 4 (.take 5 (.take 6 (.take 8 (.take 9 (.take 10 (.take 11 (.take 13 (.take 14 (.take 15 (.take 16 (.two 1 18 (.two 3 18 (.two 7 18 (.two 12 18 (.two 17 18 (.one 18 (.take 19 (.one 20 (.one 21 .nil)))) (.one 17 (.take 19 (.one 20 (.one 21 .nil))))) (.one 12 (.one 17 (.take 19 (.one 20 (.one 21 .nil)))))) (.one 7 (.one 12 (.one 17 (.take 19 (.one 20 (.one 21 .nil))))))) (.one 3 (.one 7 (.one 12 (.one 17 (.take 19 (.one 20 (.one 21 .nil)))))))) (.one 1 (.one 3 (.one 7 (.one 12 (.one 17 (.take 19 (.one 20 (.one 21 .nil)))))))))))))))))))))) (by kernel_rfl) (by kernel_rfl) (fun _ _ d _ _ h => by cases d <;> exact h) (cfS hbx) ?_
  generalize w0.drewN 1 = wA at *
  (refine treeS_take (v := _) rfl rfl (fun wS hS => exec_load_conf rfl rfl hS) ?_); (simp only [Act.put, List.setIfInBounds_toArray, List.set_cons_zero, List.set_cons_succ])
  (refine treeS_take (v := _) rfl rfl (fun wS hS => exec_load_conf rfl rfl hS) ?_); (simp only [Act.put, List.setIfInBounds_toArray, List.set_cons_zero, List.set_cons_succ])
  (refine treeS_take (v := _) rfl rfl (fun wS hS => exec_load_conf rfl rfl hS) ?_); (simp only [Act.put, List.setIfInBounds_toArray, List.set_cons_zero, List.set_cons_succ])
  repeat ((refine treeS_take (v := ?_) rfl rfl ?_ ?_); rotate_left; (focus (intro wS hS; unfold CfS at hS; go_split_ands; go_simp; first | done | with_reducible rfl)); (simp only [Act.put, List.setIfInBounds_toArray, List.set_cons_zero, List.set_cons_succ]))
  refine treeS_two rfl rfl ?_ ?_
  · go_wp2_with fail
    refine (HNB _).out.mono ?_
    rintro e w1 ⟨pb, rfl, hB, gB, f1⟩
    replace gB := Nat.le_trans G.size gB
    replace hbx := hbx.fr f1 (fun x => x)
    replace G := G.trans f1
    clear f1
    go_wp2_with fail
    refine Thn.mk ⟨cfS hbx, ?_⟩
    refine treeS_two rfl rfl ?_ ?_
    · go_wp2_with fail
      refine (HNK _).out.mono ?_
      rintro e w2 ⟨ik, rfl, hK, ⟨gK1, gK2, gK3, gK4, -, -⟩, f2⟩
      replace gK1 := Nat.le_trans G.size gK1
      replace gK2 := Nat.le_trans G.size gK2
      replace gK3 := Nat.le_trans G.size gK3
      replace gK4 := Nat.le_trans G.size gK4
      replace hB := hB.fr f2 (fun x => x)
      replace hbx := hbx.fr f2 (fun x => x)
      replace G := G.trans f2
      clear f2
      go_wp2_with fail
      refine Thn.mk ⟨cfS hbx, ?_⟩
      refine treeS_two rfl rfl ?_ ?_
      · go_wp2_with fail
        refine (HNF _).out.mono ?_
        rintro e w3 ⟨ps, pm, rfl, hF, gF1, gF2, f3⟩
        have n1 := Nat.ne_of_lt (Nat.lt_of_lt_of_le hK.2.1.1.lt gF1)
        have n2 := Nat.ne_of_lt (Nat.lt_of_lt_of_le hK.2.1.2.1.lt gF2)
        replace gF1 := Nat.le_trans G.size gF1
        replace gF2 := Nat.le_trans G.size gF2
        replace hB := hB.fr f3 (fun x => x)
        replace hK := hK.nil f3
        replace hbx := hbx.fr f3 (fun x => x)
        replace G := G.trans f3
        clear f3
        go_wp2_with fail
        refine Thn.mk ⟨cfS hbx, ?_⟩
        refine treeS_two rfl rfl ?_ ?_
        · go_wp2_with fail
          refine (HNW _).out.mono ?_
          rintro e w4 ⟨pw, rfl, hW, gW, f4⟩
          replace gW := Nat.le_trans G.size gW
          replace hB := hB.fr f4 (fun x => x)
          replace hK := hK.nil f4
          replace hF := hF.fr f4 (fun x => x) (fun x => x)
          replace hbx := hbx.fr f4 (fun x => x)
          replace G := G.trans f4
          clear f4
          go_wp2_with fail
          refine Thn.mk ⟨cfS hbx, ?_⟩
          refine treeS_two rfl rfl ?_ ?_
          · go_wp2_with fail
            refine (HNH _).out.mono ?_
            rintro e w5 ⟨ph, rfl, hH, gH, -, f5⟩
            replace gH := Nat.le_trans G.size gH
            replace hB := hB.fr f5 (fun x => x)
            replace hW := hW.fr f5 (fun x => x)
            replace hK := hK.nil f5
            replace hF := hF.fr f5 (fun x => x) (fun x => x)
            replace hbx := hbx.fr f5 (fun x => x)
            replace G := G.trans f5
            clear f5
            go_wp2_with fail
            refine Thn.mk ⟨cfS hbx, ?_⟩
            refine treeS_one rfl rfl ?_
            go_wp2_with fail
            obtain ⟨cm, hcm⟩ : ∃ cm, cm = w5.heap.size := ⟨_, rfl⟩
            have hM := MapAt.new w5
            rw [← hcm] at hM ⊢
            have gM : w.heap.size ≤ cm := by rw [hcm]; exact G.size
            have n3 : ik.m ≠ cm := by rw [hcm]; exact Nat.ne_of_lt hK.2.1.2.1.lt
            have n4 : pm ≠ cm := by rw [hcm]; exact Nat.ne_of_lt hF.2.1.lt
            have f6 : Fr Nil w5 (w5.alloc (.map #[] 0)) := (Fr.refl _ _).alloc _
            replace hB := hB.fr f6 (fun x => x)
            replace hF := hF.fr f6 (fun x => x) (fun x => x)
            replace hW := hW.fr f6 (fun x => x)
            replace hH := hH.fr f6 (fun x => x)
            replace hK := hK.nil f6
            replace hbx := hbx.fr f6 (fun x => x)
            replace G := G.trans f6
            clear f6 hcm
            generalize w5.alloc (.map #[] 0) = w6 at *
            refine Thn.mk ⟨cfS hbx, ?_⟩
            (refine treeS_take (v := ?_) rfl rfl ?_ ?_); rotate_left; (focus (intro wS hS; unfold CfS at hS; go_split_ands; go_simp; first | done | with_reducible rfl)); (simp only [Act.put, List.setIfInBounds_toArray, List.set_cons_zero, List.set_cons_succ])
            refine treeS_one rfl rfl ?_
            go_wp2_with fail
            have hL := Lib.hid (new_leaf (W := w6) hfine.out htyp.out hB hK hF hW hH hM n1 n2 n3 n4 G ⟨gB, gK1, gK2, gK3, gK4, gF1, gF2, gW, gH, gM⟩)
            refine Thn.mk ⟨cfS (hbx.alloc _), ?_⟩
            refine treeS_last rfl ?_
            clear hB hK hF hW hH hM hbx G n1 n2 n3 n4 gB gK1 gK2 gK3 gK4 gF1 gF2 gW gH gM
            go_wp2_with fail
            go_ret
            exact hL.out
          · go_wp2_with fail
            obtain ⟨cm, hcm⟩ : ∃ cm, cm = w4.heap.size := ⟨_, rfl⟩
            have hM := MapAt.new w4
            rw [← hcm] at hM ⊢
            have gM : w.heap.size ≤ cm := by rw [hcm]; exact G.size
            have n3 : ik.m ≠ cm := by rw [hcm]; exact Nat.ne_of_lt hK.2.1.2.1.lt
            have n4 : pm ≠ cm := by rw [hcm]; exact Nat.ne_of_lt hF.2.1.lt
            have f5 : Fr Nil w4 (w4.alloc (.map #[] 0)) := (Fr.refl _ _).alloc _
            replace hB := hB.fr f5 (fun x => x)
            replace hW := hW.fr f5 (fun x => x)
            replace hK := hK.nil f5
            replace hF := hF.fr f5 (fun x => x) (fun x => x)
            replace hbx := hbx.fr f5 (fun x => x)
            replace G := G.trans f5
            clear f5 hcm
            generalize w4.alloc (.map #[] 0) = w5 at *
            refine Thn.mk ⟨cfS hbx, ?_⟩
            refine treeS_one rfl rfl ?_
            go_wp2_with fail
            refine (HNH _).out.mono ?_
            rintro e w6 ⟨ph, rfl, hH, gH, -, f6⟩
            replace gH := Nat.le_trans G.size gH
            replace hB := hB.fr f6 (fun x => x)
            replace hF := hF.fr f6 (fun x => x) (fun x => x)
            replace hW := hW.fr f6 (fun x => x)
            replace hM := hM.fr f6 (fun x => x)
            replace hK := hK.nil f6
            replace hbx := hbx.fr f6 (fun x => x)
            replace G := G.trans f6
            clear f6
            go_wp2_with fail
            refine Thn.mk ⟨cfS hbx, ?_⟩
            (refine treeS_take (v := ?_) rfl rfl ?_ ?_); rotate_left; (focus (intro wS hS; unfold CfS at hS; go_split_ands; go_simp; first | done | with_reducible rfl)); (simp only [Act.put, List.setIfInBounds_toArray, List.set_cons_zero, List.set_cons_succ])
            refine treeS_one rfl rfl ?_
            go_wp2_with fail
            have hL := Lib.hid (new_leaf (W := w6) hfine.out htyp.out hB hK hF hW hH hM n1 n2 n3 n4 G ⟨gB, gK1, gK2, gK3, gK4, gF1, gF2, gW, gH, gM⟩)
            refine Thn.mk ⟨cfS (hbx.alloc _), ?_⟩
            refine treeS_last rfl ?_
            clear hB hK hF hW hH hM hbx G n1 n2 n3 n4 gB gK1 gK2 gK3 gK4 gF1 gF2 gW gH gM
            go_wp2_with fail
            go_ret
            exact hL.out
        · go_wp2_with fail
          obtain ⟨cm, hcm⟩ : ∃ cm, cm = w3.heap.size := ⟨_, rfl⟩
          have hM := MapAt.new w3
          rw [← hcm] at hM ⊢
          have gM : w.heap.size ≤ cm := by rw [hcm]; exact G.size
          have n3 : ik.m ≠ cm := by rw [hcm]; exact Nat.ne_of_lt hK.2.1.2.1.lt
          have n4 : pm ≠ cm := by rw [hcm]; exact Nat.ne_of_lt hF.2.1.lt
          have f4 : Fr Nil w3 (w3.alloc (.map #[] 0)) := (Fr.refl _ _).alloc _
          replace hB := hB.fr f4 (fun x => x)
          replace hK := hK.nil f4
          replace hF := hF.fr f4 (fun x => x) (fun x => x)
          replace hbx := hbx.fr f4 (fun x => x)
          replace G := G.trans f4
          clear f4 hcm
          generalize w3.alloc (.map #[] 0) = w4 at *
          refine Thn.mk ⟨cfS hbx, ?_⟩
          refine treeS_one rfl rfl ?_
          go_wp2_with fail
          refine (HNW _).out.mono ?_
          rintro e w5 ⟨pw, rfl, hW, gW, f5⟩
          replace gW := Nat.le_trans G.size gW
          replace hB := hB.fr f5 (fun x => x)
          replace hM := hM.fr f5 (fun x => x)
          replace hK := hK.nil f5
          replace hF := hF.fr f5 (fun x => x) (fun x => x)
          replace hbx := hbx.fr f5 (fun x => x)
          replace G := G.trans f5
          clear f5
          go_wp2_with fail
          refine Thn.mk ⟨cfS hbx, ?_⟩
          refine treeS_one rfl rfl ?_
          go_wp2_with fail
          refine (HNH _).out.mono ?_
          rintro e w6 ⟨ph, rfl, hH, gH, -, f6⟩
          replace gH := Nat.le_trans G.size gH
          replace hB := hB.fr f6 (fun x => x)
          replace hF := hF.fr f6 (fun x => x) (fun x => x)
          replace hW := hW.fr f6 (fun x => x)
          replace hM := hM.fr f6 (fun x => x)
          replace hK := hK.nil f6
          replace hbx := hbx.fr f6 (fun x => x)
          replace G := G.trans f6
          clear f6
          go_wp2_with fail
          refine Thn.mk ⟨cfS hbx, ?_⟩
          (refine treeS_take (v := ?_) rfl rfl ?_ ?_); rotate_left; (focus (intro wS hS; unfold CfS at hS; go_split_ands; go_simp; first | done | with_reducible rfl)); (simp only [Act.put, List.setIfInBounds_toArray, List.set_cons_zero, List.set_cons_succ])
          refine treeS_one rfl rfl ?_
          go_wp2_with fail
          have hL := Lib.hid (new_leaf (W := w6) hfine.out htyp.out hB hK hF hW hH hM n1 n2 n3 n4 G ⟨gB, gK1, gK2, gK3, gK4, gF1, gF2, gW, gH, gM⟩)
          refine Thn.mk ⟨cfS (hbx.alloc _), ?_⟩
          refine treeS_last rfl ?_
          clear hB hK hF hW hH hM hbx G n1 n2 n3 n4 gB gK1 gK2 gK3 gK4 gF1 gF2 gW gH gM
          go_wp2_with fail
          go_ret
          exact hL.out
      · go_wp2_with fail
        obtain ⟨cm, hcm⟩ : ∃ cm, cm = w2.heap.size := ⟨_, rfl⟩
        have hM := MapAt.new w2
        rw [← hcm] at hM ⊢
        have gM : w.heap.size ≤ cm := by rw [hcm]; exact G.size
        have n3 : ik.m ≠ cm := by rw [hcm]; exact Nat.ne_of_lt hK.2.1.2.1.lt
        have f3 : Fr Nil w2 (w2.alloc (.map #[] 0)) := (Fr.refl _ _).alloc _
        replace hB := hB.fr f3 (fun x => x)
        replace hK := hK.nil f3
        replace hbx := hbx.fr f3 (fun x => x)
        replace G := G.trans f3
        clear f3 hcm
        generalize w2.alloc (.map #[] 0) = w3 at *
        refine Thn.mk ⟨cfS hbx, ?_⟩
        refine treeS_one rfl rfl ?_
        go_wp2_with fail
        refine (HNF _).out.mono ?_
        rintro e w4 ⟨ps, pm, rfl, hF, gF1, gF2, f4⟩
        have n1 := Nat.ne_of_lt (Nat.lt_of_lt_of_le hK.2.1.1.lt gF1)
        have n2 := Nat.ne_of_lt (Nat.lt_of_lt_of_le hK.2.1.2.1.lt gF2)
        have n4 := Nat.ne_of_gt (Nat.lt_of_lt_of_le hM.lt gF2)
        replace gF1 := Nat.le_trans G.size gF1
        replace gF2 := Nat.le_trans G.size gF2
        replace hB := hB.fr f4 (fun x => x)
        replace hM := hM.fr f4 (fun x => x)
        replace hK := hK.nil f4
        replace hbx := hbx.fr f4 (fun x => x)
        replace G := G.trans f4
        clear f4
        go_wp2_with fail
        refine Thn.mk ⟨cfS hbx, ?_⟩
        refine treeS_one rfl rfl ?_
        go_wp2_with fail
        refine (HNW _).out.mono ?_
        rintro e w5 ⟨pw, rfl, hW, gW, f5⟩
        replace gW := Nat.le_trans G.size gW
        replace hB := hB.fr f5 (fun x => x)
        replace hM := hM.fr f5 (fun x => x)
        replace hK := hK.nil f5
        replace hF := hF.fr f5 (fun x => x) (fun x => x)
        replace hbx := hbx.fr f5 (fun x => x)
        replace G := G.trans f5
        clear f5
        go_wp2_with fail
        refine Thn.mk ⟨cfS hbx, ?_⟩
        refine treeS_one rfl rfl ?_
        go_wp2_with fail
        refine (HNH _).out.mono ?_
        rintro e w6 ⟨ph, rfl, hH, gH, -, f6⟩
        replace gH := Nat.le_trans G.size gH
        replace hB := hB.fr f6 (fun x => x)
        replace hF := hF.fr f6 (fun x => x) (fun x => x)
        replace hW := hW.fr f6 (fun x => x)
        replace hM := hM.fr f6 (fun x => x)
        replace hK := hK.nil f6
        replace hbx := hbx.fr f6 (fun x => x)
        replace G := G.trans f6
        clear f6
        go_wp2_with fail
        refine Thn.mk ⟨cfS hbx, ?_⟩
        (refine treeS_take (v := ?_) rfl rfl ?_ ?_); rotate_left; (focus (intro wS hS; unfold CfS at hS; go_split_ands; go_simp; first | done | with_reducible rfl)); (simp only [Act.put, List.setIfInBounds_toArray, List.set_cons_zero, List.set_cons_succ])
        refine treeS_one rfl rfl ?_
        go_wp2_with fail
        have hL := Lib.hid (new_leaf (W := w6) hfine.out htyp.out hB hK hF hW hH hM n1 n2 n3 n4 G ⟨gB, gK1, gK2, gK3, gK4, gF1, gF2, gW, gH, gM⟩)
        refine Thn.mk ⟨cfS (hbx.alloc _), ?_⟩
        refine treeS_last rfl ?_
        clear hB hK hF hW hH hM hbx G n1 n2 n3 n4 gB gK1 gK2 gK3 gK4 gF1 gF2 gW gH gM
        go_wp2_with fail
        go_ret
        exact hL.out
    · go_wp2_with fail
      obtain ⟨cm, hcm⟩ : ∃ cm, cm = w1.heap.size := ⟨_, rfl⟩
      have hM := MapAt.new w1
      rw [← hcm] at hM ⊢
      have gM : w.heap.size ≤ cm := by rw [hcm]; exact G.size
      have f2 : Fr Nil w1 (w1.alloc (.map #[] 0)) := (Fr.refl _ _).alloc _
      replace hB := hB.fr f2 (fun x => x)
      replace hbx := hbx.fr f2 (fun x => x)
      replace G := G.trans f2
      clear f2 hcm
      generalize w1.alloc (.map #[] 0) = w2 at *
      refine Thn.mk ⟨cfS hbx, ?_⟩
      refine treeS_one rfl rfl ?_
      go_wp2_with fail
      refine (HNK _).out.mono ?_
      rintro e w3 ⟨ik, rfl, hK, ⟨gK1, gK2, gK3, gK4, -, -⟩, f3⟩
      have n3 := Nat.ne_of_gt (Nat.lt_of_lt_of_le hM.lt gK3)
      replace gK1 := Nat.le_trans G.size gK1
      replace gK2 := Nat.le_trans G.size gK2
      replace gK3 := Nat.le_trans G.size gK3
      replace gK4 := Nat.le_trans G.size gK4
      replace hB := hB.fr f3 (fun x => x)
      replace hM := hM.fr f3 (fun x => x)
      replace hbx := hbx.fr f3 (fun x => x)
      replace G := G.trans f3
      clear f3
      go_wp2_with fail
      refine Thn.mk ⟨cfS hbx, ?_⟩
      refine treeS_one rfl rfl ?_
      go_wp2_with fail
      refine (HNF _).out.mono ?_
      rintro e w4 ⟨ps, pm, rfl, hF, gF1, gF2, f4⟩
      have n1 := Nat.ne_of_lt (Nat.lt_of_lt_of_le hK.2.1.1.lt gF1)
      have n2 := Nat.ne_of_lt (Nat.lt_of_lt_of_le hK.2.1.2.1.lt gF2)
      have n4 := Nat.ne_of_gt (Nat.lt_of_lt_of_le hM.lt gF2)
      replace gF1 := Nat.le_trans G.size gF1
      replace gF2 := Nat.le_trans G.size gF2
      replace hB := hB.fr f4 (fun x => x)
      replace hM := hM.fr f4 (fun x => x)
      replace hK := hK.nil f4
      replace hbx := hbx.fr f4 (fun x => x)
      replace G := G.trans f4
      clear f4
      go_wp2_with fail
      refine Thn.mk ⟨cfS hbx, ?_⟩
      refine treeS_one rfl rfl ?_
      go_wp2_with fail
      refine (HNW _).out.mono ?_
      rintro e w5 ⟨pw, rfl, hW, gW, f5⟩
      replace gW := Nat.le_trans G.size gW
      replace hB := hB.fr f5 (fun x => x)
      replace hM := hM.fr f5 (fun x => x)
      replace hK := hK.nil f5
      replace hF := hF.fr f5 (fun x => x) (fun x => x)
      replace hbx := hbx.fr f5 (fun x => x)
      replace G := G.trans f5
      clear f5
      go_wp2_with fail
      refine Thn.mk ⟨cfS hbx, ?_⟩
      refine treeS_one rfl rfl ?_
      go_wp2_with fail
      refine (HNH _).out.mono ?_
      rintro e w6 ⟨ph, rfl, hH, gH, -, f6⟩
      replace gH := Nat.le_trans G.size gH
      replace hB := hB.fr f6 (fun x => x)
      replace hF := hF.fr f6 (fun x => x) (fun x => x)
      replace hW := hW.fr f6 (fun x => x)
      replace hM := hM.fr f6 (fun x => x)
      replace hK := hK.nil f6
      replace hbx := hbx.fr f6 (fun x => x)
      replace G := G.trans f6
      clear f6
      go_wp2_with fail
      refine Thn.mk ⟨cfS hbx, ?_⟩
      (refine treeS_take (v := ?_) rfl rfl ?_ ?_); rotate_left; (focus (intro wS hS; unfold CfS at hS; go_split_ands; go_simp; first | done | with_reducible rfl)); (simp only [Act.put, List.setIfInBounds_toArray, List.set_cons_zero, List.set_cons_succ])
      refine treeS_one rfl rfl ?_
      go_wp2_with fail
      have hL := Lib.hid (new_leaf (W := w6) hfine.out htyp.out hB hK hF hW hH hM n1 n2 n3 n4 G ⟨gB, gK1, gK2, gK3, gK4, gF1, gF2, gW, gH, gM⟩)
      refine Thn.mk ⟨cfS (hbx.alloc _), ?_⟩
      refine treeS_last rfl ?_
      clear hB hK hF hW hH hM hbx G n1 n2 n3 n4 gB gK1 gK2 gK3 gK4 gF1 gF2 gW gH gM
      go_wp2_with fail
      go_ret
      exact hL.out
  · go_wp2_with fail
    obtain ⟨cm, hcm⟩ : ∃ cm, cm = wA.heap.size := ⟨_, rfl⟩
    have hM := MapAt.new wA
    rw [← hcm] at hM ⊢
    have gM : w.heap.size ≤ cm := by rw [hcm]; exact G.size
    have f1 : Fr Nil wA (wA.alloc (.map #[] 0)) := (Fr.refl _ _).alloc _
    replace hbx := hbx.fr f1 (fun x => x)
    replace G := G.trans f1
    clear f1 hcm
    generalize wA.alloc (.map #[] 0) = w1 at *
    refine Thn.mk ⟨cfS hbx, ?_⟩
    refine treeS_one rfl rfl ?_
    go_wp2_with fail
    refine (HNB _).out.mono ?_
    rintro e w2 ⟨pb, rfl, hB, gB, f2⟩
    replace gB := Nat.le_trans G.size gB
    replace hM := hM.fr f2 (fun x => x)
    replace hbx := hbx.fr f2 (fun x => x)
    replace G := G.trans f2
    clear f2
    go_wp2_with fail
    refine Thn.mk ⟨cfS hbx, ?_⟩
    refine treeS_one rfl rfl ?_
    go_wp2_with fail
    refine (HNK _).out.mono ?_
    rintro e w3 ⟨ik, rfl, hK, ⟨gK1, gK2, gK3, gK4, -, -⟩, f3⟩
    have n3 := Nat.ne_of_gt (Nat.lt_of_lt_of_le hM.lt gK3)
    replace gK1 := Nat.le_trans G.size gK1
    replace gK2 := Nat.le_trans G.size gK2
    replace gK3 := Nat.le_trans G.size gK3
    replace gK4 := Nat.le_trans G.size gK4
    replace hB := hB.fr f3 (fun x => x)
    replace hM := hM.fr f3 (fun x => x)
    replace hbx := hbx.fr f3 (fun x => x)
    replace G := G.trans f3
    clear f3
    go_wp2_with fail
    refine Thn.mk ⟨cfS hbx, ?_⟩
    refine treeS_one rfl rfl ?_
    go_wp2_with fail
    refine (HNF _).out.mono ?_
    rintro e w4 ⟨ps, pm, rfl, hF, gF1, gF2, f4⟩
    have n1 := Nat.ne_of_lt (Nat.lt_of_lt_of_le hK.2.1.1.lt gF1)
    have n2 := Nat.ne_of_lt (Nat.lt_of_lt_of_le hK.2.1.2.1.lt gF2)
    have n4 := Nat.ne_of_gt (Nat.lt_of_lt_of_le hM.lt gF2)
    replace gF1 := Nat.le_trans G.size gF1
    replace gF2 := Nat.le_trans G.size gF2
    replace hB := hB.fr f4 (fun x => x)
    replace hM := hM.fr f4 (fun x => x)
    replace hK := hK.nil f4
    replace hbx := hbx.fr f4 (fun x => x)
    replace G := G.trans f4
    clear f4
    go_wp2_with fail
    refine Thn.mk ⟨cfS hbx, ?_⟩
    refine treeS_one rfl rfl ?_
    go_wp2_with fail
    refine (HNW _).out.mono ?_
    rintro e w5 ⟨pw, rfl, hW, gW, f5⟩
    replace gW := Nat.le_trans G.size gW
    replace hB := hB.fr f5 (fun x => x)
    replace hM := hM.fr f5 (fun x => x)
    replace hK := hK.nil f5
    replace hF := hF.fr f5 (fun x => x) (fun x => x)
    replace hbx := hbx.fr f5 (fun x => x)
    replace G := G.trans f5
    clear f5
    go_wp2_with fail
    refine Thn.mk ⟨cfS hbx, ?_⟩
    refine treeS_one rfl rfl ?_
    go_wp2_with fail
    refine (HNH _).out.mono ?_
    rintro e w6 ⟨ph, rfl, hH, gH, -, f6⟩
    replace gH := Nat.le_trans G.size gH
    replace hB := hB.fr f6 (fun x => x)
    replace hF := hF.fr f6 (fun x => x) (fun x => x)
    replace hW := hW.fr f6 (fun x => x)
    replace hM := hM.fr f6 (fun x => x)
    replace hK := hK.nil f6
    replace hbx := hbx.fr f6 (fun x => x)
    replace G := G.trans f6
    clear f6
    go_wp2_with fail
    refine Thn.mk ⟨cfS hbx, ?_⟩
    (refine treeS_take (v := ?_) rfl rfl ?_ ?_); rotate_left; (focus (intro wS hS; unfold CfS at hS; go_split_ands; go_simp; first | done | with_reducible rfl)); (simp only [Act.put, List.setIfInBounds_toArray, List.set_cons_zero, List.set_cons_succ])
    refine treeS_one rfl rfl ?_
    go_wp2_with fail
    have hL := Lib.hid (new_leaf (W := w6) hfine.out htyp.out hB hK hF hW hH hM n1 n2 n3 n4 G ⟨gB, gK1, gK2, gK3, gK4, gF1, gF2, gW, gH, gM⟩)
    refine Thn.mk ⟨cfS (hbx.alloc _), ?_⟩
    refine treeS_last rfl ?_
    clear hB hK hF hW hH hM hbx G n1 n2 n3 n4 gB gK1 gK2 gK3 gK4 gF1 gF2 gW gH gM
    go_wp2_with fail
    go_ret
    exact hL.out

end Go.Proofs.Ythnaieeaominjaa
