/-
  A Conf that comes in: opened, and shut.
-/
import Derived.Test.YthnaieeaominjaaConf
import Derived.ProofKit
import Derived.Lib.SmallJoins
import Derived.ChangeSame
namespace Go.Proofs.Ythnaieeaominjaa
open Go.RowKit Go.ChangeShapes Go.WideShapes Go.ChangeAt Go.Joins
set_option linter.unusedVariables false
set_option linter.unusedSimpArgs false

theorem list16 {α : Type} (l : List α) (h : l.length = 16) : ∃ a0 a1 a2 a3 a4 a5 a6 a7 a8 a9 a10 a11 a12 a13 a14 a15 : α, l = [a0, a1, a2, a3, a4, a5, a6, a7, a8, a9, a10, a11, a12, a13, a14, a15] := by
  rcases l with _ | ⟨a0, l⟩
  · simp at h
  rcases l with _ | ⟨a1, l⟩
  · simp at h
  rcases l with _ | ⟨a2, l⟩
  · simp at h
  rcases l with _ | ⟨a3, l⟩
  · simp at h
  rcases l with _ | ⟨a4, l⟩
  · simp at h
  rcases l with _ | ⟨a5, l⟩
  · simp at h
  rcases l with _ | ⟨a6, l⟩
  · simp at h
  rcases l with _ | ⟨a7, l⟩
  · simp at h
  rcases l with _ | ⟨a8, l⟩
  · simp at h
  rcases l with _ | ⟨a9, l⟩
  · simp at h
  rcases l with _ | ⟨a10, l⟩
  · simp at h
  rcases l with _ | ⟨a11, l⟩
  · simp at h
  rcases l with _ | ⟨a12, l⟩
  · simp at h
  rcases l with _ | ⟨a13, l⟩
  · simp at h
  rcases l with _ | ⟨a14, l⟩
  · simp at h
  rcases l with _ | ⟨a15, l⟩
  · simp at h
  rcases l with _ | ⟨_, l⟩
  · exact ⟨_, _, _, _, _, _, _, _, _, _, _, _, _, _, _, _, rfl⟩
  · simp at h
theorem wf_i64 {n : Int} (h : (Lit.int .i64 n).wf = true) : I64 n := by
  simp only [Lit.wf, Bool.and_eq_true, decide_eq_true_eq] at h
  exact h
theorem wf_u64 {n : Int} (h : (Lit.int .u64 n).wf = true) : U64 n := by
  simp only [Lit.wf, Bool.and_eq_true, decide_eq_true_eq] at h
  exact h
theorem i64_wf {n : Int} (h : I64 n) : (Lit.int .i64 n).wf = true := by
  simp only [Lit.wf, Bool.and_eq_true, decide_eq_true_eq]
  exact h
theorem u64_wf {n : Int} (h : U64 n) : (Lit.int .u64 n).wf = true := by
  simp only [Lit.wf, Bool.and_eq_true, decide_eq_true_eq]
  exact h
theorem conf_cells : Try.prog.cellsOf 24 = 16 := by kernel_rfl
theorem int_cells : Try.prog.cellsOf 3 = 1 := by kernel_rfl
theorem u64_cells : Try.prog.cellsOf 22 = 1 := by kernel_rfl
def Cf.datum (c : Cf) (H : Type) : DataW H := .agg [.lit (.int .i64 c.mode), .lit (.int .i64 c.pool), .lit (.int .i64 c.queue), .lit (.int .i64 c.sem), .lit (.int .i64 c.fb), .lit (.int .i64 c.chain), .lit (.int .u64 c.tmo), .lit (.int .u64 c.fbt), .lit (.int .i64 c.vol), .lit (.int .i64 c.pct), .lit (.int .u64 c.sleep), .lit (.int .i64 c.bkts), .lit (.int .u64 c.width), .lit (.int .u64 c.win), .lit (.int .i64 c.bat), .lit (.int .i64 c.force)]
section
variable {H : Type} {enc : TypeId × Value → H} {W : World} {base : Nat} {sp : Nat → Bool} {held : Bool}
set_option maxRecDepth 100000 in
theorem conf_open {r : Reach} {b0 : Nat} {v : Value} {d : DataW H} {p : List MemPlace} (hv : Value.okWide Try.prog W r b0 24 v) (h : DataW.Trod enc Try.prog W base sp held 24 v d p) :
    ∃ c : Cf, c.Typed ∧ v = c.val ∧ d = c.datum H ∧ p = [] := by
  obtain ⟨cs, rfl, hsz⟩ := okWide_struct Try.underlying24 hv
  obtain ⟨fuel, hf⟩ := h
  obtain ⟨xs, n, -, hx, -, hlen, hfs⟩ := DataW.trod_struct Try.underlying24 hf
  rw [conf_cells] at hsz
  obtain ⟨l⟩ := cs
  obtain ⟨a0, a1, a2, a3, a4, a5, a6, a7, a8, a9, a10, a11, a12, a13, a14, a15, rfl⟩ := list16 l (by simpa using hsz)
  obtain ⟨y0, y1, y2, y3, y4, y5, y6, y7, y8, y9, y10, y11, y12, y13, y14, y15, rfl⟩ := list16 xs (by simpa using hlen)
  have e0 : DataW.trod enc Try.prog W base sp held n 3 [a0] = some y0 := by simpa [Value.cells, int_cells, u64_cells] using hfs 0 _ rfl
  have e1 : DataW.trod enc Try.prog W base sp held n 3 [a1] = some y1 := by simpa [Value.cells, int_cells, u64_cells] using hfs 1 _ rfl
  have e2 : DataW.trod enc Try.prog W base sp held n 3 [a2] = some y2 := by simpa [Value.cells, int_cells, u64_cells] using hfs 2 _ rfl
  have e3 : DataW.trod enc Try.prog W base sp held n 3 [a3] = some y3 := by simpa [Value.cells, int_cells, u64_cells] using hfs 3 _ rfl
  have e4 : DataW.trod enc Try.prog W base sp held n 3 [a4] = some y4 := by simpa [Value.cells, int_cells, u64_cells] using hfs 4 _ rfl
  have e5 : DataW.trod enc Try.prog W base sp held n 3 [a5] = some y5 := by simpa [Value.cells, int_cells, u64_cells] using hfs 5 _ rfl
  have e6 : DataW.trod enc Try.prog W base sp held n 22 [a6] = some y6 := by simpa [Value.cells, int_cells, u64_cells] using hfs 6 _ rfl
  have e7 : DataW.trod enc Try.prog W base sp held n 22 [a7] = some y7 := by simpa [Value.cells, int_cells, u64_cells] using hfs 7 _ rfl
  have e8 : DataW.trod enc Try.prog W base sp held n 3 [a8] = some y8 := by simpa [Value.cells, int_cells, u64_cells] using hfs 8 _ rfl
  have e9 : DataW.trod enc Try.prog W base sp held n 3 [a9] = some y9 := by simpa [Value.cells, int_cells, u64_cells] using hfs 9 _ rfl
  have e10 : DataW.trod enc Try.prog W base sp held n 22 [a10] = some y10 := by simpa [Value.cells, int_cells, u64_cells] using hfs 10 _ rfl
  have e11 : DataW.trod enc Try.prog W base sp held n 3 [a11] = some y11 := by simpa [Value.cells, int_cells, u64_cells] using hfs 11 _ rfl
  have e12 : DataW.trod enc Try.prog W base sp held n 22 [a12] = some y12 := by simpa [Value.cells, int_cells, u64_cells] using hfs 12 _ rfl
  have e13 : DataW.trod enc Try.prog W base sp held n 22 [a13] = some y13 := by simpa [Value.cells, int_cells, u64_cells] using hfs 13 _ rfl
  have e14 : DataW.trod enc Try.prog W base sp held n 3 [a14] = some y14 := by simpa [Value.cells, int_cells, u64_cells] using hfs 14 _ rfl
  have e15 : DataW.trod enc Try.prog W base sp held n 3 [a15] = some y15 := by simpa [Value.cells, int_cells, u64_cells] using hfs 15 _ rfl
  clear hfs hf hv
  obtain ⟨m0, h0, rfl, w0⟩ := DataW.trod_int Try.underlying3 e0
  simp only [List.cons.injEq, and_true] at h0
  subst h0
  obtain ⟨m1, h1, rfl, w1⟩ := DataW.trod_int Try.underlying3 e1
  simp only [List.cons.injEq, and_true] at h1
  subst h1
  obtain ⟨m2, h2, rfl, w2⟩ := DataW.trod_int Try.underlying3 e2
  simp only [List.cons.injEq, and_true] at h2
  subst h2
  obtain ⟨m3, h3, rfl, w3⟩ := DataW.trod_int Try.underlying3 e3
  simp only [List.cons.injEq, and_true] at h3
  subst h3
  obtain ⟨m4, h4, rfl, w4⟩ := DataW.trod_int Try.underlying3 e4
  simp only [List.cons.injEq, and_true] at h4
  subst h4
  obtain ⟨m5, h5, rfl, w5⟩ := DataW.trod_int Try.underlying3 e5
  simp only [List.cons.injEq, and_true] at h5
  subst h5
  obtain ⟨m6, h6, rfl, w6⟩ := DataW.trod_int Try.underlying22 e6
  simp only [List.cons.injEq, and_true] at h6
  subst h6
  obtain ⟨m7, h7, rfl, w7⟩ := DataW.trod_int Try.underlying22 e7
  simp only [List.cons.injEq, and_true] at h7
  subst h7
  obtain ⟨m8, h8, rfl, w8⟩ := DataW.trod_int Try.underlying3 e8
  simp only [List.cons.injEq, and_true] at h8
  subst h8
  obtain ⟨m9, h9, rfl, w9⟩ := DataW.trod_int Try.underlying3 e9
  simp only [List.cons.injEq, and_true] at h9
  subst h9
  obtain ⟨m10, h10, rfl, w10⟩ := DataW.trod_int Try.underlying22 e10
  simp only [List.cons.injEq, and_true] at h10
  subst h10
  obtain ⟨m11, h11, rfl, w11⟩ := DataW.trod_int Try.underlying3 e11
  simp only [List.cons.injEq, and_true] at h11
  subst h11
  obtain ⟨m12, h12, rfl, w12⟩ := DataW.trod_int Try.underlying22 e12
  simp only [List.cons.injEq, and_true] at h12
  subst h12
  obtain ⟨m13, h13, rfl, w13⟩ := DataW.trod_int Try.underlying22 e13
  simp only [List.cons.injEq, and_true] at h13
  subst h13
  obtain ⟨m14, h14, rfl, w14⟩ := DataW.trod_int Try.underlying3 e14
  simp only [List.cons.injEq, and_true] at h14
  subst h14
  obtain ⟨m15, h15, rfl, w15⟩ := DataW.trod_int Try.underlying3 e15
  simp only [List.cons.injEq, and_true] at h15
  subst h15
  simp only [Prod.mk.injEq] at hx
  exact ⟨⟨m0, m1, m2, m3, m4, m5, m6, m7, m8, m9, m10, m11, m12, m13, m14, m15⟩, ⟨wf_i64 w0, wf_i64 w1, wf_i64 w2, wf_i64 w3, wf_i64 w4, wf_i64 w5, wf_u64 w6, wf_u64 w7, wf_i64 w8, wf_i64 w9, wf_u64 w10, wf_i64 w11, wf_u64 w12, wf_u64 w13, wf_i64 w14, wf_i64 w15⟩, rfl, hx.1, hx.2⟩
set_option maxRecDepth 100000 in
theorem conf_shut (c : Cf) (h : c.Typed) : DataW.Trod enc Try.prog W base sp held 24 c.val (c.datum H) [] := by
  have h0 : DataW.trod enc Try.prog W base sp held 1 3 [.int .i64 c.mode] = some (.lit (.int .i64 c.mode), []) := trod_int_mk 0 Try.underlying3 (i64_wf h.mode)
  have h1 : DataW.trod enc Try.prog W base sp held 1 3 [.int .i64 c.pool] = some (.lit (.int .i64 c.pool), []) := trod_int_mk 0 Try.underlying3 (i64_wf h.pool)
  have h2 : DataW.trod enc Try.prog W base sp held 1 3 [.int .i64 c.queue] = some (.lit (.int .i64 c.queue), []) := trod_int_mk 0 Try.underlying3 (i64_wf h.queue)
  have h3 : DataW.trod enc Try.prog W base sp held 1 3 [.int .i64 c.sem] = some (.lit (.int .i64 c.sem), []) := trod_int_mk 0 Try.underlying3 (i64_wf h.sem)
  have h4 : DataW.trod enc Try.prog W base sp held 1 3 [.int .i64 c.fb] = some (.lit (.int .i64 c.fb), []) := trod_int_mk 0 Try.underlying3 (i64_wf h.fb)
  have h5 : DataW.trod enc Try.prog W base sp held 1 3 [.int .i64 c.chain] = some (.lit (.int .i64 c.chain), []) := trod_int_mk 0 Try.underlying3 (i64_wf h.chain)
  have h6 : DataW.trod enc Try.prog W base sp held 1 22 [.int .u64 c.tmo] = some (.lit (.int .u64 c.tmo), []) := trod_int_mk 0 Try.underlying22 (u64_wf h.tmo)
  have h7 : DataW.trod enc Try.prog W base sp held 1 22 [.int .u64 c.fbt] = some (.lit (.int .u64 c.fbt), []) := trod_int_mk 0 Try.underlying22 (u64_wf h.fbt)
  have h8 : DataW.trod enc Try.prog W base sp held 1 3 [.int .i64 c.vol] = some (.lit (.int .i64 c.vol), []) := trod_int_mk 0 Try.underlying3 (i64_wf h.vol)
  have h9 : DataW.trod enc Try.prog W base sp held 1 3 [.int .i64 c.pct] = some (.lit (.int .i64 c.pct), []) := trod_int_mk 0 Try.underlying3 (i64_wf h.pct)
  have h10 : DataW.trod enc Try.prog W base sp held 1 22 [.int .u64 c.sleep] = some (.lit (.int .u64 c.sleep), []) := trod_int_mk 0 Try.underlying22 (u64_wf h.sleep)
  have h11 : DataW.trod enc Try.prog W base sp held 1 3 [.int .i64 c.bkts] = some (.lit (.int .i64 c.bkts), []) := trod_int_mk 0 Try.underlying3 (i64_wf h.bkts)
  have h12 : DataW.trod enc Try.prog W base sp held 1 22 [.int .u64 c.width] = some (.lit (.int .u64 c.width), []) := trod_int_mk 0 Try.underlying22 (u64_wf h.width)
  have h13 : DataW.trod enc Try.prog W base sp held 1 22 [.int .u64 c.win] = some (.lit (.int .u64 c.win), []) := trod_int_mk 0 Try.underlying22 (u64_wf h.win)
  have h14 : DataW.trod enc Try.prog W base sp held 1 3 [.int .i64 c.bat] = some (.lit (.int .i64 c.bat), []) := trod_int_mk 0 Try.underlying3 (i64_wf h.bat)
  have h15 : DataW.trod enc Try.prog W base sp held 1 3 [.int .i64 c.force] = some (.lit (.int .i64 c.force), []) := trod_int_mk 0 Try.underlying3 (i64_wf h.force)
  have ts := trod_struct_mk (enc := enc) (w := W) (base := base) (spare := sp) (held := held) (n := 1) (cs := [.int .i64 c.mode, .int .i64 c.pool, .int .i64 c.queue, .int .i64 c.sem, .int .i64 c.fb, .int .i64 c.chain, .int .u64 c.tmo, .int .u64 c.fbt, .int .i64 c.vol, .int .i64 c.pct, .int .u64 c.sleep, .int .i64 c.bkts, .int .u64 c.width, .int .u64 c.win, .int .i64 c.bat, .int .i64 c.force]) (xs := [(.lit (.int .i64 c.mode), []), (.lit (.int .i64 c.pool), []), (.lit (.int .i64 c.queue), []), (.lit (.int .i64 c.sem), []), (.lit (.int .i64 c.fb), []), (.lit (.int .i64 c.chain), []), (.lit (.int .u64 c.tmo), []), (.lit (.int .u64 c.fbt), []), (.lit (.int .i64 c.vol), []), (.lit (.int .i64 c.pct), []), (.lit (.int .u64 c.sleep), []), (.lit (.int .i64 c.bkts), []), (.lit (.int .u64 c.width), []), (.lit (.int .u64 c.win), []), (.lit (.int .i64 c.bat), []), (.lit (.int .i64 c.force), [])]) Try.underlying24 (by simp [conf_cells]) (by simp [int_cells, u64_cells, h0, h1, h2, h3, h4, h5, h6, h7, h8, h9, h10, h11, h12, h13, h14, h15])
  exact ⟨_, by simpa [Value.cells, Cf.val, Cf.cells, Cf.datum] using ts⟩
theorem bool_shut (b : Bool) : DataW.Trod enc Try.prog W base sp held 4 (.bool b) (.lit (.bool b)) [] := ⟨1, by simp [DataW.trod, Value.cells, Lit.wf, Try.underlying4]⟩
end
theorem row_own : ownKnob Try.prog.godebug = none := by kernel_rfl

end Go.Proofs.Ythnaieeaominjaa
