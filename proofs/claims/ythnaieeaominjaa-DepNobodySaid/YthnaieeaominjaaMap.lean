/-
  A Go map as the list of its entries, in the order in which they lie: what is found, set, taken out. No program stands here.
-/
import Derived.Test.YthnaieeaominjaaBase
namespace Go.Proofs.Ythnaieeaominjaa
open Go.RowKit
set_option linter.unusedVariables false
set_option linter.unusedSimpArgs false

/-- A region that draws its order, all of whose operations ahead of the n-th one only read: in the order of the text, in the world behind the draw. -/
theorem region_tail {P : Program} {id : Nat} {Q : Exit → Act → World → Prop} {a : Act} {w : World} {l : List Oper} (n : Nat) (hm : P.follows .mixedOrders = true) (hB : Region.lexTailB .any l.toArray n = true)
    (h : wpStill P l.toArray (w.drewN 1) (fun a' => wpList P l.toArray Q (l.drop n) a' (w.drewN 1)) (l.take n) a) : (Code.region id l.toArray true).wp P Q a w :=
  wp_region_still_tail n hm hB h

/-- The first entry whose key p knows: its place, its value. -/
def mfind (p : Value → Bool) : List MapEntry → Nat → Option (Nat × Value)
  | [], _ => none
  | e :: es, i => if p e.key then some (i, e.val) else mfind p es (i + 1)

def KV (es : List MapEntry) : List (Value × Value) := es.map fun e => (e.key, e.val)
def lfind (p : Value → Bool) : List (Value × Value) → Option Value
  | [] => none
  | e :: l => if p e.1 then some e.2 else lfind p l
def lset (p : Value → Bool) (k v : Value) : List (Value × Value) → List (Value × Value)
  | [] => [(k, v)]
  | e :: l => if p e.1 then (k, v) :: l else e :: lset p k v l
def ldel (p : Value → Bool) : List (Value × Value) → List (Value × Value)
  | [] => []
  | e :: l => if p e.1 then l else e :: ldel p l

theorem mfind_lfind (p : Value → Bool) (es : List MapEntry) : ∀ i, (mfind p es i).map (·.2) = lfind p (KV es) := by
  induction es with
  | nil => intro i; rfl
  | cons e es ih =>
    intro i
    simp only [mfind, KV, List.map_cons, lfind]
    by_cases h : p e.key = true
    · simp [h]
    · simp only [h]; exact ih (i + 1)

/-- Where the entry lies. -/
theorem mfind_place {p : Value → Bool} {es : List MapEntry} : ∀ {i j : Nat} {v : Value}, mfind p es i = some (j, v) → ∃ d, j = i + d ∧ ∃ e, es[d]? = some e ∧ p e.key = true ∧ e.val = v ∧
    (∀ k u, lset p k u (KV es) = KV (es.modify d fun x => { x with key := k, val := u })) ∧ ldel p (KV es) = KV (es.eraseIdx d) := by
  induction es with
  | nil => intro i j v h; cases h
  | cons e es ih =>
    intro i j v h
    simp only [mfind] at h
    by_cases hp : p e.key = true
    · rw [if_pos hp] at h
      cases h
      exact ⟨0, rfl, e, rfl, hp, rfl, fun k u => by simp [KV, lset, hp], by simp [KV, ldel, hp]⟩
    · rw [if_neg hp] at h
      obtain ⟨d, hj, e', he, hp', hv, hs, hd⟩ := ih h
      refine ⟨d + 1, by omega, e', by simpa using he, hp', hv, fun k u => ?_, ?_⟩
      · have := hs k u
        simp only [KV] at this
        simp [KV, lset, hp, this]
      · simp only [KV] at hd
        simp [KV, ldel, hp, hd]
theorem mfind_none {p : Value → Bool} {es : List MapEntry} : ∀ {i : Nat}, mfind p es i = none → (∀ k u, lset p k u (KV es) = KV es ++ [(k, u)]) ∧ ldel p (KV es) = KV es := by
  induction es with
  | nil => intro i h; exact ⟨fun k u => rfl, rfl⟩
  | cons e es ih =>
    intro i h
    simp only [mfind] at h
    by_cases hp : p e.key = true
    · rw [if_pos hp] at h; cases h
    · rw [if_neg hp] at h
      obtain ⟨h1, h2⟩ := ih h
      simp only [KV] at h1 h2
      exact ⟨fun k u => by simp [KV, lset, hp, h1], by simp [KV, ldel, hp, h2]⟩

/-- The births rise, and stand below the clock. -/
def Births (es : List MapEntry) (clock : Nat) : Prop := (es.map (·.born)).Pairwise (· < ·) ∧ ∀ e ∈ es, e.born < clock

/-- The block r is a map that holds the entries l, in this order. -/
def MapAt (w : World) (r : Nat) (l : List (Value × Value)) : Prop := ∃ es clock, Blk w r (.map es clock) ∧ KV es.toList = l ∧ Births es.toList clock

theorem MapAt.lt {w : World} {r : Nat} {l : List (Value × Value)} (h : MapAt w r l) : r < w.heap.size := by obtain ⟨es, c, h, -⟩ := h; exact h.lt
theorem MapAt.fr {S : Nat → Prop} {w w' : World} {r : Nat} {l : List (Value × Value)} (h : MapAt w r l) (f : Fr S w w') (hr : ¬ S r) : MapAt w' r l := by
  obtain ⟨es, c, h, h2⟩ := h; exact ⟨es, c, h.fr f hr, h2⟩
theorem MapAt.drewN {w : World} {r : Nat} {l : List (Value × Value)} (h : MapAt w r l) (n : Nat) : MapAt (w.drewN n) r l := h
theorem MapAt.new (w : World) : MapAt (w.alloc (.map #[] 0)) w.heap.size [] := ⟨#[], 0, Blk.new _ _, rfl, by simp [Births]⟩

/-- What the world is when the map r has become another. -/
def World.setObj (w : World) (r : Nat) (o : Obj) : World := { w with heap := w.heap.setIfInBounds r o }
theorem setObj_blk {w : World} {r : Nat} {o o' : Obj} (h : Blk w r o) : Blk (World.setObj w r o') r o' := by
  have := h.lt
  unfold Blk World.setObj; simp [this]
theorem setObj_fr {w : World} {r : Nat} {o' : Obj} : Fr (Only r) w (World.setObj w r o') :=
  ⟨rfl, rfl, rfl, by simp [World.setObj], fun k hk hn => by simp only [World.setObj]; rw [Array.getElem?_setIfInBounds_ne (fun e => hn e.symm)]⟩

section
variable {P : Program}

/-- What a key type must tell: its keys pass the check, a key is told from another one by p, and is the same in all bits where p says so. -/
structure Key (P : Program) (K : TypeId) (key : Value) (p : Value → Bool) (dom : Value → Prop) : Prop where
  check : ∀ b w, (Instr.checkKey b 10000 K key).run P w = .ok () w
  find : ∀ (es : List MapEntry), (∀ e ∈ es, dom e.key) → ∀ w, (Instr.findKey K key es).run P w = .ok (mfind p es 0) w
  bits : ∀ x, dom x → p x = true → Instr.sameBits 10000 x key = true

theorem run_lookup {M K E : TypeId} {r : Nat} {key z : Value} {p : Value → Bool} {dom : Value → Prop} {l : List (Value × Value)} {w : World} (hM : P.underlying M = some (.map K E)) (hz : ∀ w, (zeroValue E).run P w = .ok z w)
    (hk : Key P K key p dom) (h : MapAt w r l) (hd : ∀ e ∈ l, dom e.1) (ok : Bool) :
    (Instr.lookup M (.map (some r)) key ok).run P w = .ok (if ok then .tuple #[(lfind p l).getD z, .bool (lfind p l).isSome] else (lfind p l).getD z) w := by
  obtain ⟨es, c, hb, rfl, -⟩ := h
  have hf := hk.find es.toList (fun e he => hd _ (by simp only [KV, List.mem_map]; exact ⟨e, he, rfl⟩)) w
  have hl := mfind_lfind p es.toList 0
  have hg : (getObj r).run P w = .ok (.map es c) w := by unfold Blk at hb; simp [getObj, Sem.run, hb]
  cases hm : mfind p es.toList 0 with
  | none =>
    rw [hm] at hf hl
    simp only [Option.map_none] at hl
    rw [← hl]
    cases ok <;> simp [Instr.lookup, run_underlying hM, hg, hk.check, hf, hz w, go_sem]
  | some q =>
    rw [hm] at hf hl
    simp only [Option.map_some] at hl
    rw [← hl]
    cases ok <;> simp [Instr.lookup, run_underlying hM, hg, hk.check, hf, go_sem]

theorem births_modify {es : List MapEntry} {c d : Nat} {k v : Value} (h : Births es c) : Births (es.modify d fun x => { x with key := k, val := v }) c := by
  have hm : (es.modify d fun x => { x with key := k, val := v }).map (·.born) = es.map (·.born) := by
    clear h
    induction es generalizing d with
    | nil => cases d <;> rfl
    | cons e es ih => cases d with
      | zero => simp
      | succ d => simp [ih]
  refine ⟨by rw [hm]; exact h.1, fun e he => ?_⟩
  have : e.born ∈ es.map (·.born) := hm ▸ List.mem_map_of_mem he
  obtain ⟨e', he', hb⟩ := List.mem_map.1 this
  rw [← hb]; exact h.2 e' he'
theorem births_push {es : List MapEntry} {c : Nat} {k v : Value} (h : Births es c) : Births (es ++ [{ key := k, val := v, born := c }]) (c + 1) := by
  refine ⟨?_, fun e he => ?_⟩
  · rw [List.map_append, List.pairwise_append]
    refine ⟨h.1, by simp, fun a ha b hb => ?_⟩
    obtain ⟨e, he, rfl⟩ := List.mem_map.1 ha
    simp at hb; subst hb
    exact h.2 e he
  · rcases List.mem_append.1 he with he | he
    · have := h.2 e he; omega
    · simp at he; subst he; exact Nat.lt_succ_self c
theorem births_erase {es : List MapEntry} {c d : Nat} (h : Births es c) : Births (es.eraseIdx d) c :=
  ⟨h.1.sublist ((List.eraseIdx_sublist es d).map _), fun e he => h.2 e (List.mem_of_mem_eraseIdx he)⟩

theorem run_update {M K E : TypeId} {r : Nat} {key val : Value} {p : Value → Bool} {dom : Value → Prop} {l : List (Value × Value)} {w : World} (hM : P.underlying M = some (.map K E))
    (hk : Key P K key p dom) (h : MapAt w r l) (hd : ∀ e ∈ l, dom e.1) :
    ∃ o, ∀ W : World, W.heap[r]? = w.heap[r]? → (Instr.mapUpdate M (.map (some r)) key val).run P W = .ok () (World.setObj W r o) ∧ MapAt (World.setObj W r o) r (lset p key val l) := by
  obtain ⟨es, c, hb0, rfl, hbirth⟩ := h
  have hdom : ∀ e ∈ es.toList, dom e.key := fun e he => hd _ (by simp only [KV, List.mem_map]; exact ⟨e, he, rfl⟩)
  have hf := hk.find es.toList hdom
  have hb : ∀ W : World, W.heap[r]? = w.heap[r]? → Blk W r (.map es c) := fun W hW => hW.trans hb0
  have hg : ∀ W : World, W.heap[r]? = w.heap[r]? → (getObj r).run P W = .ok (.map es c) W := fun W hW => by have := hb W hW; unfold Blk at this; simp [getObj, Sem.run, this]
  have hs : ∀ (W : World) o, W.heap[r]? = w.heap[r]? → (setObj r o).run P W = .ok () (World.setObj W r o) := fun W o hW => by have := hb W hW; unfold Blk at this; simp [setObj, Sem.run, this, World.setObj]
  cases hm : mfind p es.toList 0 with
  | none =>
    rw [hm] at hf
    obtain ⟨h1, -⟩ := mfind_none hm
    refine ⟨.map (es.push { key, val, born := c }) (c + 1), fun W hW => ⟨?_, _, _, setObj_blk (hb W hW), ?_, ?_⟩⟩
    · simp [Instr.mapUpdate, run_underlying hM, hg W hW, hk.check, hf, hs W _ hW]
    · rw [h1]; simp [KV]
    · simpa using births_push hbirth
  | some q =>
    obtain ⟨i, v⟩ := q
    rw [hm] at hf
    obtain ⟨d, hi, e, he, hp, hv, h1, -⟩ := mfind_place hm
    obtain rfl : i = d := by omega
    refine ⟨.map (es.modify i fun x => { x with key, val }) c, fun W hW => ⟨?_, _, _, setObj_blk (hb W hW), ?_, ?_⟩⟩
    · have he' : es[i]? = some e := by simpa using he
      have hmem : e ∈ es.toList := List.mem_of_getElem? he
      have hst : Instr.keyThatStays e.key key = pure key := by unfold Instr.keyThatStays; rw [if_pos (hk.bits _ (hdom e hmem) hp)]
      simp [Instr.mapUpdate, run_underlying hM, hg W hW, hk.check, hf, he', hst, hs W _ hW]
    · rw [h1]; simp
    · simpa using births_modify hbirth

theorem run_delete {M K E ty t2 : TypeId} {r : Nat} {key : Value} {p : Value → Bool} {dom : Value → Prop} {l : List (Value × Value)} {w : World} (hM : P.underlying M = some (.map K E))
    (hk : Key P K key p dom) (h : MapAt w r l) (hd : ∀ e ∈ l, dom e.1) :
    ∃ o, ∀ W : World, W.heap[r]? = w.heap[r]? → (Builtin.delete_ #[M, t2] ty #[.map (some r), key]).run P W = .ok (.tuple #[]) (World.setObj W r o) ∧ MapAt (World.setObj W r o) r (ldel p l) := by
  obtain ⟨es, c, hb0, rfl, hbirth⟩ := h
  have hdom : ∀ e ∈ es.toList, dom e.key := fun e he => hd _ (by simp only [KV, List.mem_map]; exact ⟨e, he, rfl⟩)
  have hf := hk.find es.toList hdom
  have hb : ∀ W : World, W.heap[r]? = w.heap[r]? → Blk W r (.map es c) := fun W hW => hW.trans hb0
  have hg : ∀ W : World, W.heap[r]? = w.heap[r]? → (getObj r).run P W = .ok (.map es c) W := fun W hW => by have := hb W hW; unfold Blk at this; simp [getObj, Sem.run, this]
  have hs : ∀ (W : World) o, W.heap[r]? = w.heap[r]? → (setObj r o).run P W = .ok () (World.setObj W r o) := fun W o hW => by have := hb W hW; unfold Blk at this; simp [setObj, Sem.run, this, World.setObj]
  cases hm : mfind p es.toList 0 with
  | none =>
    rw [hm] at hf
    obtain ⟨-, h1⟩ := mfind_none hm
    refine ⟨.map es c, fun W hW => ⟨?_, _, _, setObj_blk (hb W hW), ?_, hbirth⟩⟩
    · simp [Builtin.delete_, run_underlying hM, hg W hW, hk.check, hf, hs W _ hW]
    · rw [h1]
  | some q =>
    obtain ⟨i, v⟩ := q
    rw [hm] at hf
    obtain ⟨d, hi, e, he, hp, hv, -, h1⟩ := mfind_place hm
    obtain rfl : i = d := by omega
    refine ⟨.map (es.eraseIdxIfInBounds i) c, fun W hW => ⟨?_, _, _, setObj_blk (hb W hW), ?_, ?_⟩⟩
    · simp [Builtin.delete_, run_underlying hM, hg W hW, hk.check, hf, hs W _ hW]
    · rw [h1]; simp
    · simpa using births_erase hbirth

theorem run_len_map {M K E ty : TypeId} {r : Nat} {l : List (Value × Value)} {w : World} (hM : P.underlying M = some (.map K E)) (h : MapAt w r l) :
    (Builtin.len_ #[M] ty #[.map (some r)]).run P w = .ok (.int .i64 l.length) w := by
  obtain ⟨es, c, hb, rfl, hbirth⟩ := h
  have hg : (getObj r).run P w = .ok (.map es c) w := by unfold Blk at hb; simp [getObj, Sem.run, hb]
  simp [Builtin.len_, run_underlying hM, hg, KV, goInt]

/-! Keys that are numbers. -/
def isInt (k : Int) : Value → Bool | .int _ j => k == j | _ => false
def intKey : Value → Prop := fun v => ∃ j, v = .int .i64 j

theorem findNow_int (k : Int) (es : List MapEntry) (hd : ∀ e ∈ es, intKey e.key) : ∀ i, Instr.findNow (.int .i64) (.int .i64 k) es i = some (mfind (isInt k) es i) := by
  induction es with
  | nil => intro i; rfl
  | cons e es ih =>
    intro i
    obtain ⟨j, hj⟩ := hd e (by simp)
    have := ih (fun x hx => hd x (by simp [hx])) (i + 1)
    simp only [Instr.findNow, hj, Instr.sameNow, if_true, mfind, isInt]
    cases h : (k == j) <;> simp [this]

theorem sameBits_int (n : Nat) (a b : Int) : Instr.sameBits n (.int .i64 a) (.int .i64 b) = (a == b) := by cases n <;> simp [Instr.sameBits]

theorem check_int {K : TypeId} (hK : P.underlying K = some (.int .i64)) (b : Bool) (n : Nat) (v : Value) (w : World) : (Instr.checkKey b (n + 1) K v).run P w = .ok () w := by
  simp [Instr.checkKey, run_underlying hK]

theorem key_int {K : TypeId} (hK : P.underlying K = some (.int .i64)) (k : Int) : Key P K (.int .i64 k) (isInt k) intKey where
  check b w := check_int hK b 9999 _ w
  find es hd w := by simp [Instr.findKey, run_underlying hK, findNow_int k es hd]
  bits x hx hp := by
    obtain ⟨j, rfl⟩ := hx
    simp [isInt] at hp
    rw [sameBits_int]; simp [hp]

/-! Keys that are structs. -/
def eqInts : List Int → List Value → Bool
  | [], [] => true
  | x :: l, .int .i64 a :: cs => x == a && eqInts l cs
  | _, _ => false
/-- Is a value the struct of these numbers? -/
def isAgg (l : List Int) : Value → Bool | .agg cs => eqInts l cs.toList | _ => false
theorem run_asking {K : TypeId} {key : Value} {p : Value → Bool} (es : List MapEntry) (h : ∀ e ∈ es, ∀ w, (Op.equal K key e.key).run P w = .ok (p e.key) w) :
    ∀ i w, (Instr.findAsking K key es i).run P w = .ok (mfind p es i) w := by
  induction es with
  | nil => intro i w; rfl
  | cons e es ih =>
    intro i w
    have h1 := h e (by simp) w
    have h2 := ih (fun x hx => h x (by simp [hx])) (i + 1) w
    simp only [Instr.findAsking, Sem.run_bind, h1, Result.andThen, mfind]
    by_cases hp : p e.key = true
    · simp [hp]
    · simp [hp, h2]

theorem key_struct {K : TypeId} {fs : Array Field} {key : Value} {p : Value → Bool} {dom : Value → Prop} (hK : P.underlying K = some (.struct fs)) (hc : ∀ b w, (Instr.checkKey b 10000 K key).run P w = .ok () w)
    (he : ∀ x, dom x → ∀ w, (Op.equal K key x).run P w = .ok (p x) w) (hb : ∀ x, dom x → p x = true → Instr.sameBits 10000 x key = true) : Key P K key p dom where
  check := hc
  find es hd w := by
    cases es with
    | nil => simp [Instr.findKey, run_underlying hK, Instr.findNow, mfind]
    | cons e es =>
      have hn : Instr.findNow (.struct fs) key (e :: es) 0 = none := by simp [Instr.findNow, Instr.sameNow]
      have := run_asking (e :: es) (fun x hx => he x.key (hd x hx)) 0 w
      simp [Instr.findKey, run_underlying hK, hn, this]
  bits := hb

end
end Go.Proofs.Ythnaieeaominjaa
