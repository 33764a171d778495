/- Maps keyed by int: what lookup, update, delete and len do, as a list of pairs. Whether a switch's tags may be: the program's own test. What a term's kind has: the program's own test. -/
import Derived.Below
import Derived.Carry
import Derived.OwnWalk
import Derived.MapKept
import Derived.Maps.OwnOps
import Derived.Deep.DeepMust
import Derived.Test.YtimljadlfhccpaaProg
import Derived.Test.YtimljadlfhccpaaMA
set_option linter.all false
set_option linter.all false
set_option linter.all false
set_option linter.all false
namespace Go.Proofs.Ytimljadlfhccpaa
open Go.RowKit Go.MapKept

/-- Block b is a map from int to what stands in the list, in the order in which the keys came. -/
def IMap (w : World) (b : Nat) (es : List (Int × Value)) : Prop :=
  ∃ (ents : Array MapEntry) (clock : Nat), w.heap[b]? = some (.map ents clock) ∧ ents.toList.map (fun e => (e.key, e.val)) = es.map (fun p => (Value.int .i64 p.1, p.2)) ∧
    (es.map (·.1)).Nodup ∧ ents.toList.Pairwise (fun x y => x.born < y.born) ∧ ∀ e ∈ ents.toList, e.born < clock
def assoc (es : List (Int × Value)) (k : Int) : Option Value := (es.find? (fun p => p.1 == k)).map (·.2)
/-- The list with a key's value laid: in its place, or behind the others. -/
def putA : List (Int × Value) → Int → Value → List (Int × Value)
  | [], k, v => [(k, v)]
  | p :: r, k, v => if p.1 = k then (k, v) :: r else p :: putA r k v
def delA (es : List (Int × Value)) (k : Int) : List (Int × Value) := es.filter (fun p => p.1 != k)

theorem assoc_nil (k) : assoc [] k = none := rfl
theorem assoc_cons (p r k) : assoc (p :: r) k = if p.1 = k then some p.2 else assoc r k := by
  unfold assoc
  by_cases h : p.1 = k <;> simp [List.find?_cons, h]
theorem assoc_put (es k v k') : assoc (putA es k v) k' = if k' = k then some v else assoc es k' := by
  induction es with
  | nil => simp only [putA, assoc_cons, assoc_nil]; by_cases h : k = k' <;> simp [h, eq_comm]
  | cons p r ih =>
    simp only [putA]
    split
    · rename_i h
      simp only [assoc_cons, h]
      by_cases h' : k' = k
      · subst h'; simp
      · simp [h', Ne.symm h']
    · rename_i h
      rw [assoc_cons, ih, assoc_cons]
      by_cases h' : p.1 = k'
      · subst h'; simp [h]
      · simp [h']
theorem assoc_mem {es : List (Int × Value)} {k v} (h : assoc es k = some v) : (k, v) ∈ es := by
  induction es with
  | nil => cases h
  | cons p r ih =>
    rw [assoc_cons] at h
    split at h
    · rename_i e; subst e; injection h with h; subst h; exact List.mem_cons_self
    · exact List.mem_cons_of_mem _ (ih h)
theorem assoc_none {es : List (Int × Value)} {k} (h : assoc es k = none) : k ∉ es.map (·.1) := by
  induction es with
  | nil => simp
  | cons p r ih =>
    rw [assoc_cons] at h
    split at h
    · cases h
    · rename_i e; simp only [List.map_cons, List.mem_cons, not_or]; exact ⟨fun e' => e e'.symm, ih h⟩
theorem putA_new {es : List (Int × Value)} {k v} (h : assoc es k = none) : putA es k v = es ++ [(k, v)] := by
  induction es with
  | nil => rfl
  | cons p r ih =>
    rw [assoc_cons] at h
    split at h
    · cases h
    · rename_i e; simp only [putA, if_neg e, ih h, List.cons_append]
theorem putA_keys {es : List (Int × Value)} {k v} : (putA es k v).map (·.1) = if k ∈ es.map (·.1) then es.map (·.1) else es.map (·.1) ++ [k] := by
  induction es with
  | nil => simp [putA]
  | cons p r ih =>
    simp only [putA]
    split
    · rename_i e; simp [e]
    · rename_i e
      simp only [List.map_cons, ih, List.mem_cons]
      have : ¬ k = p.1 := fun e' => e e'.symm
      simp only [this, false_or]
      split <;> simp
theorem IMap.lt {w : World} {b es} (h : IMap w b es) : b < w.heap.size := by
  obtain ⟨ents, c, hb, _⟩ := h
  exact (Array.getElem?_eq_some_iff.1 hb).1
theorem IMap.same {w w' : World} {b es} (h : IMap w b es) (hb : w'.heap[b]? = w.heap[b]?) : IMap w' b es := by
  obtain ⟨ents, c, h1, h2⟩ := h
  exact ⟨ents, c, hb.trans h1, h2⟩
theorem IMap.below {w w' : World} {b es} (h : IMap w b es) (hb : Below w.heap.size w w') : IMap w' b es := h.same (hb.block b h.lt)
theorem IMap.new (w : World) : IMap (w.alloc (.map #[] 0)) w.heap.size [] :=
  ⟨#[], 0, by rw [heap_alloc_new], rfl, by simp, by simp, by simp⟩
section
variable {P : Program} {w : World} {b : Nat} {es : List (Int × Value)}
theorem findNow_I (k : Int) (q : IntKind) : ∀ (l : List MapEntry) (es : List (Int × Value)) (i : Nat), l.map (fun e => (e.key, e.val)) = es.map (fun p => (Value.int .i64 p.1, p.2)) →
    ∃ r, Instr.findNow (.int q) (.int .i64 k) l i = some r ∧ r.map (·.2) = assoc es k ∧ ∀ x, r = some x → ∃ j, x.1 = i + j ∧ ∃ hj : j < es.length, es[j].1 = k ∧ ∀ j' (h' : j' < j), es[j'].1 ≠ k
  | [], es, i, h => by
    have : es = [] := by simpa using h.symm
    subst this
    exact ⟨none, rfl, rfl, fun x hx => by cases hx⟩
  | e :: l, [], i, h => by simp at h
  | e :: l, p :: es, i, h => by
    simp only [List.map_cons, List.cons.injEq, Prod.mk.injEq] at h
    obtain ⟨⟨h1, h2⟩, h3⟩ := h
    unfold Instr.findNow
    rw [h1]
    simp only [Instr.sameNow, if_true]
    by_cases hk : k = p.1
    · subst hk
      simp only [beq_self_eq_true]
      exact ⟨_, rfl, by simp [assoc_cons, h2], fun x hx => by injection hx with hx; subst hx; exact ⟨0, rfl, by simp, rfl, fun j' h' => by omega⟩⟩
    · rw [show (k == p.1) = false by simpa using hk]
      obtain ⟨r, hr, ha, hx⟩ := findNow_I k q l es (i + 1) h3
      refine ⟨r, hr, by rw [assoc_cons, if_neg (fun e => hk e.symm), ha], fun x he => ?_⟩
      obtain ⟨j, hj, hl, hk', hall⟩ := hx x he
      refine ⟨j + 1, by omega, by simp; omega, by simpa using hk', fun j' h' => ?_⟩
      cases j' with
      | zero => simpa using fun e => hk e.symm
      | succ n => simpa using hall n (by omega)
theorem isKey_I (k : Int) : IsKey (.int .i64) (.int .i64 k) := by
  simp [IsKey]
theorem run_checkKey_I {K : TypeId} (hk : P.underlying K = some (.int .i64)) (e : Bool) (k : Int) (w : World) : (Instr.checkKey e 10000 K (.int .i64 k)).run P w = .ok () w :=
  run_checkKey hk (isKey_I k) e 9999
theorem run_lookup_I {T K E : TypeId} {z : Value} (ht : P.underlying T = some (.map K E)) (hk : P.underlying K = some (.int .i64)) (hz : ∀ w : World, (zeroValue E).run P w = .ok z w)
    (h : IMap w b es) (k : Int) (c : Bool) : (Instr.lookup T (.map (some b)) (.int .i64 k) c).run P w = .ok (if c then .tuple #[(assoc es k).getD z, .bool (assoc es k).isSome] else (assoc es k).getD z) w := by
  obtain ⟨ents, clock, hb, hm, _⟩ := h
  obtain ⟨r, hr, ha, _⟩ := findNow_I k .i64 ents.toList es 0 hm
  have hg : (getObj b).run P w = .ok (.map ents clock) w := by simp [getObj, Sem.run, hb]
  cases hc : r with
  | none =>
    have hn : assoc es k = none := by rw [← ha, hc]; rfl
    simp [Instr.lookup, run_underlying ht, hg, run_checkKey_I hk, Instr.findKey, run_underlying hk, hr, hc, hz, hn]
  | some x =>
    have hn : assoc es k = some x.2 := by rw [← ha, hc]; rfl
    simp [Instr.lookup, run_underlying ht, hg, run_checkKey_I hk, Instr.findKey, run_underlying hk, hr, hc, hn]
theorem find_split {es : List (Int × Value)} {k : Int} {j : Nat} (hj : j < es.length) (hk : es[j].1 = k) (hall : ∀ j' (h' : j' < j), es[j'].1 ≠ k) (v : Value) : putA es k v = es.set j (k, v) := by
  induction es generalizing j with
  | nil => simp at hj
  | cons p r ih =>
    cases j with
    | zero => simp only [List.getElem_cons_zero] at hk; simp [putA, hk]
    | succ n =>
      have h0 := hall 0 (by omega)
      simp only [List.getElem_cons_zero] at h0
      rw [putA, if_neg h0, List.set_cons_succ, ih (by simpa using hj) (by simpa using hk) (fun j' h' => by simpa using hall (j' + 1) (by omega))]
theorem run_mapUpdate_I {T K E : TypeId} (ht : P.underlying T = some (.map K E)) (hk : P.underlying K = some (.int .i64)) (h : IMap w b es) (k : Int) (v : Value) :
    ∃ w1, (Instr.mapUpdate T (.map (some b)) (.int .i64 k) v).run P w = .ok () w1 ∧ IMap w1 b (putA es k v) ∧ w.grownBy w1 (some b) ∧ w1.heap.size = w.heap.size := by
  obtain ⟨ents, clock, hb, hm, hn, hp, hc⟩ := h
  obtain ⟨r, hr, ha, hx⟩ := findNow_I k .i64 ents.toList es 0 hm
  have hg : (getObj b).run P w = .ok (.map ents clock) w := by simp [getObj, Sem.run, hb]
  have hbl : b < w.heap.size := (Array.getElem?_eq_some_iff.1 hb).1
  have hset : ∀ o, (setObj b o).run P w = .ok () { w with heap := w.heap.setIfInBounds b o } := fun o => by simp [setObj, Sem.run, hb]
  have hgrow : ∀ o, w.grownBy { w with heap := w.heap.setIfInBounds b o } (some b) := fun o =>
    ⟨rfl, rfl, rfl, by simp, fun j _ hne => by
      show (w.heap.setIfInBounds b o)[j]? = _
      rw [Array.getElem?_setIfInBounds_ne]; intro e; exact hne (by rw [e])⟩
  have hat : ∀ o, ({ w with heap := w.heap.setIfInBounds b o } : World).heap[b]? = some o := fun o => by
    show (w.heap.setIfInBounds b o)[b]? = _
    simp [hbl]
  cases hc' : r with
  | none =>
    have hno : assoc es k = none := by rw [← ha, hc']; rfl
    refine ⟨_, ?_, ⟨ents.push { key := .int .i64 k, val := v, born := clock }, clock + 1, hat _, ?_, ?_, ?_, ?_⟩, hgrow _, by simp⟩
    · simp [Instr.mapUpdate, run_underlying ht, hg, run_checkKey_I hk, Instr.findKey, run_underlying hk, hr, hc', hset]
    · simp [putA_new hno, hm]
    · rw [putA_keys, if_neg (assoc_none hno)]
      rw [List.nodup_append]
      exact ⟨hn, by simp, fun x hx' y hy e => by simp at hy; subst hy; subst e; exact assoc_none hno hx'⟩
    · rw [Array.toList_push, List.pairwise_append]
      exact ⟨hp, by simp, fun x hx y hy => by simp at hy; subst hy; exact hc x hx⟩
    · intro e he
      rw [Array.toList_push, List.mem_append] at he
      rcases he with he | he
      · have := hc e he; omega
      · simp at he; subst he; simp
  | some x =>
    obtain ⟨j, hj, hl, hkj, hall⟩ := hx x hc'
    have hjx : x.1 = j := by omega
    have hlen : ents.toList.length = es.length := by simpa using congrArg List.length hm
    have hje : j < ents.size := by rw [← hlen] at hl; simpa using hl
    have hkey : (ents[j]).key = .int .i64 k := by
      have h1 := congrArg (fun l => l[j]?) hm
      simp only [List.getElem?_map] at h1
      rw [List.getElem?_eq_getElem hl, List.getElem?_eq_getElem (by simpa using hje)] at h1
      simp at h1
      rw [h1.1, hkj]
    have hst := run_keyThatStays (P := P) (w := w) (isKey_I k)
    refine ⟨_, ?_, ⟨ents.modify j fun e => { e with key := .int .i64 k, val := v }, clock, hat _, ?_, ?_, ?_, ?_⟩, hgrow _, by simp⟩
    · simp [Instr.mapUpdate, run_underlying ht, hg, run_checkKey_I hk, Instr.findKey, run_underlying hk, hr, hc', hset, hjx, Array.getElem?_eq_getElem hje, hkey, hst]
    · rw [find_split hl hkj hall, Array.toList_modify, List.map_set]
      apply List.ext_getElem?
      intro i
      have h1 := congrArg (fun l => l[i]?) hm
      simp only [List.getElem?_map] at h1
      rw [List.getElem?_map, List.getElem?_modify, List.getElem?_set]
      by_cases hij : j = i
      · subst hij
        simp only [if_true]
        rw [List.getElem?_eq_getElem (by simpa using hje)]
        simp [hl]
      · simp only [if_neg hij]
        simpa using h1
    · rw [putA_keys, if_pos]
      · exact hn
      · exact List.mem_map.2 ⟨es[j], List.getElem_mem hl, hkj⟩
    · rw [Array.toList_modify]
      rw [← List.pairwise_map (f := fun e : MapEntry => e.born) (R := fun x y => x < y)] at hp ⊢
      rwa [show (ents.toList.modify j fun e => { e with key := .int .i64 k, val := v }).map (fun e => e.born) = ents.toList.map (fun e => e.born) from by
        apply List.ext_getElem?; intro i; rw [List.getElem?_map, List.getElem?_modify, List.getElem?_map]; split <;> simp [Function.comp_def]]
    · intro e he
      rw [Array.toList_modify] at he
      obtain ⟨i, hi, rfl⟩ := List.mem_iff_getElem.1 he
      rw [List.getElem_modify]
      have hi' : i < ents.toList.length := by simpa using hi
      have := hc _ (List.getElem_mem hi')
      split <;> exact this
theorem run_len_I {T K E ty : TypeId} (ht : P.underlying T = some (.map K E)) (h : IMap w b es) : (Builtin.len_ #[T] ty #[.map (some b)]).run P w = .ok (.int .i64 es.length) w := by
  obtain ⟨ents, clock, hb, hm, _⟩ := h
  have hlen : ents.size = es.length := by simpa using congrArg List.length hm
  have hg : (getObj b).run P w = .ok (.map ents clock) w := by simp [getObj, Sem.run, hb]
  simp [Builtin.len_, run_underlying ht, hg, goInt, hlen]
theorem wpList_mapUpdate_I {ops : Array Oper} {rest : List Oper} {o : Oper} {a : Act} {Q : Exit → Act → World → Prop} (hgd : o.guard = none) (m x v : Operand) (T K E : TypeId)
    (ho : o.op = .mapUpdate T m x v) (ht : P.underlying T = some (.map K E)) (hk : P.underlying K = some (.int .i64)) (hm : a.eval m = .map (some b)) (k : Int) (hx : a.eval x = .int .i64 k) (hI : IMap w b es)
    (h : ∀ w1, IMap w1 b (putA es k (a.eval v)) → w.grownBy w1 (some b) → w1.heap.size = w.heap.size → wpList P ops Q rest (a.put o.dst undef) w1) : wpList P ops Q (o :: rest) a w :=
  wpList_plain hgd fun K' hK => by
    obtain ⟨w1, hr, h1, h2, h3⟩ := run_mapUpdate_I ht hk hI k (a.eval v)
    unfold Oper.wp execOp
    simp only [ho, hm, hx, Sem.run_bind, hr, Result.andThen_ok, Sem.run_pure]
    exact hK _ _ (h w1 h1 h2 h3)
theorem wpList_lookup_I {ops : Array Oper} {rest : List Oper} {o : Oper} {a : Act} {Q : Exit → Act → World → Prop} (hgd : o.guard = none) (m x : Operand) (T K E : TypeId) (z : Value)
    (ho : o.op = .lookup T m x false) (ht : P.underlying T = some (.map K E)) (hk : P.underlying K = some (.int .i64)) (hz : ∀ w : World, (zeroValue E).run P w = .ok z w) (hm : a.eval m = .map (some b)) (k : Int) (hx : a.eval x = .int .i64 k) (hI : IMap w b es)
    (h : wpList P ops Q rest (a.put o.dst ((assoc es k).getD z)) w) : wpList P ops Q (o :: rest) a w :=
  wpList_plain hgd fun K' hK => by
    have hr := run_lookup_I ht hk hz hI k false
    unfold Oper.wp execOp
    simp only [ho, hm, hx, Sem.run_bind, hr, Result.andThen_ok, Sem.run_pure]
    exact hK _ _ h
end
end Go.Proofs.Ytimljadlfhccpaa
namespace Go.Proofs.Ytimljadlfhccpaa
open Go.RowKit
set_option maxHeartbeats 1000000

theorem RInts.at {m : Mp} {base : Option Addr} {n cap : Nat} {l : List Int} (h : RInts m (.slice base n cap) l) {w : World} (hm : Ag m w) (i : Nat) (hi : i < l.length) :
    ∃ b o, base = some ⟨b, o, none⟩ ∧ w.cell? ⟨b, o + i, none⟩ = some (.int .i64 l[i]) := by
  obtain ⟨base', cap', e, _, _, H⟩ := h.open hm
  injection e with e1 e2 e3
  subst e1
  obtain ⟨b, o, hb, hc⟩ := H.out i hi
  exact ⟨b, o, hb, hc i hi⟩
theorem zero_int (w : World) : (zeroValue 3).run Try.prog w = .ok (.int .i64 0) w := by kernel_rfl
def okTag (ib : Bool) (n : Int) : Bool := if ib then inB n else decide (0 ≤ n) && decide (n ≤ 31)
def taggedB (t : Term) : Bool := (decide (t.next.length = t.tags.length) || decide (t.next.length = t.tags.length + 1)) && decide (1 ≤ t.next.length) && t.tags.all (okTag t.ints) && onceB t.tags
def ones (l : List Int) : List (Int × Value) := l.map (fun n => (n, .int .i64 1))
theorem ones_in {l : List Int} {n : Int} (h : n ∈ l) : assoc (ones l) n = some (.int .i64 1) := by
  induction l with
  | nil => cases h
  | cons x r ih =>
    rw [ones, List.map_cons, assoc_cons]
    split
    · rfl
    · rename_i hx; exact ih (by rcases List.mem_cons.1 h with e | e; exact absurd e.symm hx; exact e)
theorem ones_out {l : List Int} {n : Int} (h : n ∉ l) : assoc (ones l) n = none := by
  induction l with
  | nil => rfl
  | cons x r ih =>
    rw [ones, List.map_cons, assoc_cons, if_neg (fun e => h (by simp [← e]))]
    exact ih (fun e => h (List.mem_cons_of_mem _ e))
theorem IMap.new' (w : World) (b : Nat) (hb : b = w.heap.size) : IMap (w.alloc (.map #[] 0)) b [] := hb ▸ IMap.new w
theorem below_grown {B : Nat} {w0 w w' : World} {b : Nat} (h : Below B w0 w) (hg : w.grownBy w' (some b)) (hb : B ≤ b) (hB : B ≤ w.heap.size := by omega) : Below B w0 w' :=
  h.grown hg hB (fun k e => by injection e with e; omega)
theorem ones_snoc {l : List Int} {j : Nat} (hj : j < l.length) (h : assoc (ones (l.take j)) l[j] = none) : putA (ones (l.take j)) l[j] (.int .i64 1) = ones (l.take (j + 1)) := by
  rw [putA_new h, List.take_succ_eq_append_getElem hj, ones, ones, List.map_append]; rfl
theorem taggedB_bad {t : Term} {j : Nat} (hj : j < t.tags.length) (h : t.tags[j] ∈ t.tags.take j ∨ okTag t.ints t.tags[j] = false) : taggedB t = false := by
  rw [← Bool.not_eq_true]
  intro ht
  simp only [taggedB, Bool.and_eq_true] at ht
  obtain ⟨⟨_, ha⟩, ho⟩ := ht
  rcases h with h | h
  · have := onceB_snoc (t.tags.take j) t.tags[j]
    rw [← List.take_succ_eq_append_getElem hj] at this
    have hn := (onceB_iff _).1 ho
    have h1 : onceB (t.tags.take (j + 1)) = true := (onceB_iff _).2 (hn.sublist (List.take_sublist _ _))
    rw [h1] at this
    simp [h] at this
  · rw [List.all_eq_true] at ha
    rw [ha _ (List.getElem_mem hj)] at h
    cases h
theorem tagged_next {t : Term} {j : Nat} (hj : j < t.tags.length) (h1 : (t.tags.take j).all (okTag t.ints) = true) (h2 : onceB (t.tags.take j) = true) (h : okTag t.ints t.tags[j] = true) (hn : t.tags[j] ∉ t.tags.take j) :
    (t.tags.take (j + 1)).all (okTag t.ints) = true ∧ onceB (t.tags.take (j + 1)) = true := by
  rw [List.take_succ_eq_append_getElem hj, List.all_append, onceB_snoc, h1, h2]
  simp [h, hn]
set_option maxRecDepth 100000 in
theorem tagged_any {m : Mp} {c : List Value} {t : Term} (hr : RTerm m c t) (w : World) (hm : Ag m w) :
    Calls Try.prog 64 #[.agg c.toArray] w fun e w' => e = .returned (.bool (taggedB t)) ∧ Below w.heap.size w w' := by
  obtain ⟨tb, tcap, ab, acap, fb, fcap, nb, ncap, rfl, O⟩ := hr.opn
  have HM := Lib.hid hm
  have HT := Lib.hid O.tags
  have t2 := O.tags.len
  have n2 := O.nbd
  clear hr hm O
  have hmm := @run_makeMap Try.prog
  by_cases hl : (t.next.length = t.tags.length ∨ t.next.length = t.tags.length + 1) ∧ 1 ≤ t.next.length
  · have HL := Lib.hid hl
    obtain ⟨hl1, hl2⟩ := hl
    have hn0 : ((t.next.length : Int) == 0) = false := by rw [beq_eq_false_iff_ne]; omega
    by_cases hd : t.next.length = t.tags.length
    · have hd0 : ((t.next.length : Int) - t.tags.length != 0) = false := by rw [bne_eq_false_iff_eq]; omega
      have HD := Lib.hid hd
      clear hl1 hd
      go_enter Try.func64, Try.ntmps64
      go_wp2_with fail
      go_loopg [30] (t.tags.length) (fun g i wr => ∃ j : Nat, j + g = t.tags.length ∧ i = .int .i64 j ∧ Hid ((t.tags.take j).all (okTag t.ints) = true ∧ onceB (t.tags.take j) = true) ∧ IMap wr (w.heap.size + 1) (ones (t.tags.take j)) ∧ Below w.heap.size w wr ∧ w.heap.size + 1 < wr.heap.size ∧ wr.cell? ⟨w.heap.size, 3, none⟩ = some (.bool t.ints))
      case atStart => exact ⟨0, by omega, rfl, Lib.hid ⟨rfl, rfl⟩, IMap.new' _ _ (by simp), (below_box _ _).alloc (by simp) _, by simp, by simp [go_sem]⟩
      case round =>
        obtain ⟨j, hj, rfl, hs, hI, hbel, hsz, c3⟩ := hrel
        by_cases hlt : j < t.tags.length
        · obtain ⟨b, o, rfl, ea⟩ := RInts.at HT.out (HM.out.later hbel) j hlt
          have bad : Hid (t.tags[j] ∈ t.tags.take j ∨ okTag t.ints t.tags[j] = false → taggedB t = false) := Lib.hid (taggedB_bad hlt)
          have hsu : Hid (okTag t.ints t.tags[j] = true → t.tags[j] ∉ t.tags.take j → (t.tags.take (j + 1)).all (okTag t.ints) = true ∧ onceB (t.tags.take (j + 1)) = true) := Lib.hid (tagged_next hlt hs.out.1 hs.out.2)
          clear hs
          by_cases hin : t.tags[j] ∈ t.tags.take j
          · have ha := ones_in hin
            have hb2 : assoc (putA (ones (t.tags.take j)) t.tags[j] (.int .i64 2)) t.tags[j] = some (.int .i64 2) := by rw [assoc_put, if_pos rfl]
            go_wp2_with (first | (at_lookup; refine wpList_lookup_I rfl _ _ _ _ _ _ rfl Try.underlying52 Try.underlying3 zero_int rfl _ rfl (by assumption) ?_) | (at_mapUpdate; refine wpList_mapUpdate_I rfl _ _ _ _ _ _ rfl Try.underlying52 Try.underlying3 rfl _ rfl (by assumption) ?_; intro w1 hI1 hg hz1; have c3' := hg.cell c3 (by simp); clear hI) | (go_at_call 39; refine (iIn _ _).mono ?_; rintro e w' ⟨rfl, rfl⟩))
            go_ret
            exact ⟨by rw [bad.out (Or.inl hin)]; rfl, below_grown hbel hg (by omega)⟩
          · have ha := ones_out hin
            have hb2 : assoc (putA (ones (t.tags.take j)) t.tags[j] (.int .i64 1)) t.tags[j] = some (.int .i64 1) := by rw [assoc_put, if_pos rfl]
            have hon : Hid (putA (ones (t.tags.take j)) t.tags[j] (.int .i64 1) = ones (t.tags.take (j + 1))) := Lib.hid (ones_snoc hlt ha)
            rcases Bool.eq_false_or_eq_true t.ints with hib | hib
            · have Hib := Lib.hid hib; rw [hib] at c3; clear hib
              cases hi : inB t.tags[j] with
              | true =>
                go_wp2_with (first | (at_lookup; refine wpList_lookup_I rfl _ _ _ _ _ _ rfl Try.underlying52 Try.underlying3 zero_int rfl _ rfl (by assumption) ?_) | (at_mapUpdate; refine wpList_mapUpdate_I rfl _ _ _ _ _ _ rfl Try.underlying52 Try.underlying3 rfl _ rfl (by assumption) ?_; intro w1 hI1 hg hz1; have c3' := hg.cell c3 (by simp); clear hI) | (go_at_call 39; refine (iIn _ _).mono ?_; rintro e w' ⟨rfl, rfl⟩))
                go_roundg (t.tags.length - (j + 1))
                case measure => omega
                case rel => exact ⟨j + 1, by omega, by go_num, Lib.hid (hsu.out (by first | (simp [okTag, Hib.out, *]; done) | (simp [okTag, Hib.out]; omega)) hin), by rw [← hon.out]; exact hI1, below_grown hbel hg (by omega), by omega, by rw [Hib.out]; exact c3'⟩
              | false =>
                go_wp2_with (first | (at_lookup; refine wpList_lookup_I rfl _ _ _ _ _ _ rfl Try.underlying52 Try.underlying3 zero_int rfl _ rfl (by assumption) ?_) | (at_mapUpdate; refine wpList_mapUpdate_I rfl _ _ _ _ _ _ rfl Try.underlying52 Try.underlying3 rfl _ rfl (by assumption) ?_; intro w1 hI1 hg hz1; have c3' := hg.cell c3 (by simp); clear hI) | (go_at_call 39; refine (iIn _ _).mono ?_; rintro e w' ⟨rfl, rfl⟩))
                go_ret
                exact ⟨by rw [bad.out (Or.inr (by first | (simp [okTag, Hib.out, *]; done) | (simp [okTag, Hib.out]; omega)))]; rfl, below_grown hbel hg (by omega)⟩
            · have Hib := Lib.hid hib; rw [hib] at c3; clear hib
              by_cases h0 : 0 ≤ t.tags[j]
              · by_cases h1 : t.tags[j] ≤ 31
                · go_wp2_with (first | (at_lookup; refine wpList_lookup_I rfl _ _ _ _ _ _ rfl Try.underlying52 Try.underlying3 zero_int rfl _ rfl (by assumption) ?_) | (at_mapUpdate; refine wpList_mapUpdate_I rfl _ _ _ _ _ _ rfl Try.underlying52 Try.underlying3 rfl _ rfl (by assumption) ?_; intro w1 hI1 hg hz1; have c3' := hg.cell c3 (by simp); clear hI) | (go_at_call 39; refine (iIn _ _).mono ?_; rintro e w' ⟨rfl, rfl⟩))
                  go_roundg (t.tags.length - (j + 1))
                  case measure => omega
                  case rel => exact ⟨j + 1, by omega, by go_num, Lib.hid (hsu.out (by first | (simp [okTag, Hib.out, *]; done) | (simp [okTag, Hib.out]; omega)) hin), by rw [← hon.out]; exact hI1, below_grown hbel hg (by omega), by omega, by rw [Hib.out]; exact c3'⟩
                · go_wp2_with (first | (at_lookup; refine wpList_lookup_I rfl _ _ _ _ _ _ rfl Try.underlying52 Try.underlying3 zero_int rfl _ rfl (by assumption) ?_) | (at_mapUpdate; refine wpList_mapUpdate_I rfl _ _ _ _ _ _ rfl Try.underlying52 Try.underlying3 rfl _ rfl (by assumption) ?_; intro w1 hI1 hg hz1; have c3' := hg.cell c3 (by simp); clear hI) | (go_at_call 39; refine (iIn _ _).mono ?_; rintro e w' ⟨rfl, rfl⟩))
                  go_ret
                  exact ⟨by rw [bad.out (Or.inr (by first | (simp [okTag, Hib.out, *]; done) | (simp [okTag, Hib.out]; omega)))]; rfl, below_grown hbel hg (by omega)⟩
              · go_wp2_with (first | (at_lookup; refine wpList_lookup_I rfl _ _ _ _ _ _ rfl Try.underlying52 Try.underlying3 zero_int rfl _ rfl (by assumption) ?_) | (at_mapUpdate; refine wpList_mapUpdate_I rfl _ _ _ _ _ _ rfl Try.underlying52 Try.underlying3 rfl _ rfl (by assumption) ?_; intro w1 hI1 hg hz1; have c3' := hg.cell c3 (by simp); clear hI) | (go_at_call 39; refine (iIn _ _).mono ?_; rintro e w' ⟨rfl, rfl⟩))
                go_ret
                exact ⟨by rw [bad.out (Or.inr (by first | (simp [okTag, Hib.out, *]; done) | (simp [okTag, Hib.out]; omega)))]; rfl, below_grown hbel hg (by omega)⟩
        · have hs' := hs.out
          rw [List.take_of_length_le (by omega)] at hs'
          have Hq : Hid (taggedB t = true) := Lib.hid (by unfold taggedB; rw [hs'.1, hs'.2]; have hl' := HL.out; simp; omega)
          clear hs hs'
          go_wp2_with fail
          go_ret
          exact ⟨by rw [Hq.out]; rfl, hbel⟩
    · have hd0 : ((t.next.length : Int) - t.tags.length != 0) = true := by rw [bne_iff_ne]; omega
      have hd1 : ((t.next.length : Int) - t.tags.length != 1) = false := by rw [bne_eq_false_iff_eq]; omega
      have HD := Lib.hid hd
      clear hl1 hd
      go_enter Try.func64, Try.ntmps64
      go_wp2_with fail
      go_loopg [30] (t.tags.length) (fun g i wr => ∃ j : Nat, j + g = t.tags.length ∧ i = .int .i64 j ∧ Hid ((t.tags.take j).all (okTag t.ints) = true ∧ onceB (t.tags.take j) = true) ∧ IMap wr (w.heap.size + 1) (ones (t.tags.take j)) ∧ Below w.heap.size w wr ∧ w.heap.size + 1 < wr.heap.size ∧ wr.cell? ⟨w.heap.size, 3, none⟩ = some (.bool t.ints))
      case atStart => exact ⟨0, by omega, rfl, Lib.hid ⟨rfl, rfl⟩, IMap.new' _ _ (by simp), (below_box _ _).alloc (by simp) _, by simp, by simp [go_sem]⟩
      case round =>
        obtain ⟨j, hj, rfl, hs, hI, hbel, hsz, c3⟩ := hrel
        by_cases hlt : j < t.tags.length
        · obtain ⟨b, o, rfl, ea⟩ := RInts.at HT.out (HM.out.later hbel) j hlt
          have bad : Hid (t.tags[j] ∈ t.tags.take j ∨ okTag t.ints t.tags[j] = false → taggedB t = false) := Lib.hid (taggedB_bad hlt)
          have hsu : Hid (okTag t.ints t.tags[j] = true → t.tags[j] ∉ t.tags.take j → (t.tags.take (j + 1)).all (okTag t.ints) = true ∧ onceB (t.tags.take (j + 1)) = true) := Lib.hid (tagged_next hlt hs.out.1 hs.out.2)
          clear hs
          by_cases hin : t.tags[j] ∈ t.tags.take j
          · have ha := ones_in hin
            have hb2 : assoc (putA (ones (t.tags.take j)) t.tags[j] (.int .i64 2)) t.tags[j] = some (.int .i64 2) := by rw [assoc_put, if_pos rfl]
            go_wp2_with (first | (at_lookup; refine wpList_lookup_I rfl _ _ _ _ _ _ rfl Try.underlying52 Try.underlying3 zero_int rfl _ rfl (by assumption) ?_) | (at_mapUpdate; refine wpList_mapUpdate_I rfl _ _ _ _ _ _ rfl Try.underlying52 Try.underlying3 rfl _ rfl (by assumption) ?_; intro w1 hI1 hg hz1; have c3' := hg.cell c3 (by simp); clear hI) | (go_at_call 39; refine (iIn _ _).mono ?_; rintro e w' ⟨rfl, rfl⟩))
            go_ret
            exact ⟨by rw [bad.out (Or.inl hin)]; rfl, below_grown hbel hg (by omega)⟩
          · have ha := ones_out hin
            have hb2 : assoc (putA (ones (t.tags.take j)) t.tags[j] (.int .i64 1)) t.tags[j] = some (.int .i64 1) := by rw [assoc_put, if_pos rfl]
            have hon : Hid (putA (ones (t.tags.take j)) t.tags[j] (.int .i64 1) = ones (t.tags.take (j + 1))) := Lib.hid (ones_snoc hlt ha)
            rcases Bool.eq_false_or_eq_true t.ints with hib | hib
            · have Hib := Lib.hid hib; rw [hib] at c3; clear hib
              cases hi : inB t.tags[j] with
              | true =>
                go_wp2_with (first | (at_lookup; refine wpList_lookup_I rfl _ _ _ _ _ _ rfl Try.underlying52 Try.underlying3 zero_int rfl _ rfl (by assumption) ?_) | (at_mapUpdate; refine wpList_mapUpdate_I rfl _ _ _ _ _ _ rfl Try.underlying52 Try.underlying3 rfl _ rfl (by assumption) ?_; intro w1 hI1 hg hz1; have c3' := hg.cell c3 (by simp); clear hI) | (go_at_call 39; refine (iIn _ _).mono ?_; rintro e w' ⟨rfl, rfl⟩))
                go_roundg (t.tags.length - (j + 1))
                case measure => omega
                case rel => exact ⟨j + 1, by omega, by go_num, Lib.hid (hsu.out (by first | (simp [okTag, Hib.out, *]; done) | (simp [okTag, Hib.out]; omega)) hin), by rw [← hon.out]; exact hI1, below_grown hbel hg (by omega), by omega, by rw [Hib.out]; exact c3'⟩
              | false =>
                go_wp2_with (first | (at_lookup; refine wpList_lookup_I rfl _ _ _ _ _ _ rfl Try.underlying52 Try.underlying3 zero_int rfl _ rfl (by assumption) ?_) | (at_mapUpdate; refine wpList_mapUpdate_I rfl _ _ _ _ _ _ rfl Try.underlying52 Try.underlying3 rfl _ rfl (by assumption) ?_; intro w1 hI1 hg hz1; have c3' := hg.cell c3 (by simp); clear hI) | (go_at_call 39; refine (iIn _ _).mono ?_; rintro e w' ⟨rfl, rfl⟩))
                go_ret
                exact ⟨by rw [bad.out (Or.inr (by first | (simp [okTag, Hib.out, *]; done) | (simp [okTag, Hib.out]; omega)))]; rfl, below_grown hbel hg (by omega)⟩
            · have Hib := Lib.hid hib; rw [hib] at c3; clear hib
              by_cases h0 : 0 ≤ t.tags[j]
              · by_cases h1 : t.tags[j] ≤ 31
                · go_wp2_with (first | (at_lookup; refine wpList_lookup_I rfl _ _ _ _ _ _ rfl Try.underlying52 Try.underlying3 zero_int rfl _ rfl (by assumption) ?_) | (at_mapUpdate; refine wpList_mapUpdate_I rfl _ _ _ _ _ _ rfl Try.underlying52 Try.underlying3 rfl _ rfl (by assumption) ?_; intro w1 hI1 hg hz1; have c3' := hg.cell c3 (by simp); clear hI) | (go_at_call 39; refine (iIn _ _).mono ?_; rintro e w' ⟨rfl, rfl⟩))
                  go_roundg (t.tags.length - (j + 1))
                  case measure => omega
                  case rel => exact ⟨j + 1, by omega, by go_num, Lib.hid (hsu.out (by first | (simp [okTag, Hib.out, *]; done) | (simp [okTag, Hib.out]; omega)) hin), by rw [← hon.out]; exact hI1, below_grown hbel hg (by omega), by omega, by rw [Hib.out]; exact c3'⟩
                · go_wp2_with (first | (at_lookup; refine wpList_lookup_I rfl _ _ _ _ _ _ rfl Try.underlying52 Try.underlying3 zero_int rfl _ rfl (by assumption) ?_) | (at_mapUpdate; refine wpList_mapUpdate_I rfl _ _ _ _ _ _ rfl Try.underlying52 Try.underlying3 rfl _ rfl (by assumption) ?_; intro w1 hI1 hg hz1; have c3' := hg.cell c3 (by simp); clear hI) | (go_at_call 39; refine (iIn _ _).mono ?_; rintro e w' ⟨rfl, rfl⟩))
                  go_ret
                  exact ⟨by rw [bad.out (Or.inr (by first | (simp [okTag, Hib.out, *]; done) | (simp [okTag, Hib.out]; omega)))]; rfl, below_grown hbel hg (by omega)⟩
              · go_wp2_with (first | (at_lookup; refine wpList_lookup_I rfl _ _ _ _ _ _ rfl Try.underlying52 Try.underlying3 zero_int rfl _ rfl (by assumption) ?_) | (at_mapUpdate; refine wpList_mapUpdate_I rfl _ _ _ _ _ _ rfl Try.underlying52 Try.underlying3 rfl _ rfl (by assumption) ?_; intro w1 hI1 hg hz1; have c3' := hg.cell c3 (by simp); clear hI) | (go_at_call 39; refine (iIn _ _).mono ?_; rintro e w' ⟨rfl, rfl⟩))
                go_ret
                exact ⟨by rw [bad.out (Or.inr (by first | (simp [okTag, Hib.out, *]; done) | (simp [okTag, Hib.out]; omega)))]; rfl, below_grown hbel hg (by omega)⟩
        · have hs' := hs.out
          rw [List.take_of_length_le (by omega)] at hs'
          have Hq : Hid (taggedB t = true) := Lib.hid (by unfold taggedB; rw [hs'.1, hs'.2]; have hl' := HL.out; simp; omega)
          clear hs hs'
          go_wp2_with fail
          go_ret
          exact ⟨by rw [Hq.out]; rfl, hbel⟩
  · have Hq : Hid (taggedB t = false) := Lib.hid (by rw [← Bool.not_eq_true]; unfold taggedB; simp; omega)
    by_cases hd : t.next.length = t.tags.length
    · have hd0 : ((t.next.length : Int) - t.tags.length != 0) = false := by rw [bne_eq_false_iff_eq]; omega
      have hn0 : ((t.next.length : Int) == 0) = true := by rw [beq_iff_eq]; omega
      go_enter Try.func64, Try.ntmps64
      go_wp2_with fail
      go_ret
      exact ⟨by rw [Hq.out]; rfl, below_box _ _⟩
    · have hd0 : ((t.next.length : Int) - t.tags.length != 0) = true := by rw [bne_iff_ne]; omega
      by_cases hd1 : t.next.length = t.tags.length + 1
      · exfalso; omega
      · have hd1 : ((t.next.length : Int) - t.tags.length != 1) = true := by rw [bne_iff_ne]; omega
        go_enter Try.func64, Try.ntmps64
        go_wp2_with fail
        go_ret
        exact ⟨by rw [Hq.out]; rfl, below_box _ _⟩
end Go.Proofs.Ytimljadlfhccpaa
namespace Go.Proofs.Ytimljadlfhccpaa
open Go.RowKit
set_option maxHeartbeats 1000000

def formedB (nf : Nat) (main : Int) (t : Term) : Bool :=
  t.funs.length == 0 && (
  if t.kind = 1 then t.ints == false && t.tags.length == 0 && t.args.length == 2 && t.next.length == 1 && decide (1 ≤ t.n) && decide (t.n ≤ 7) else
  if t.kind = 2 then t.ints == false && t.tags.length == 0 && decide (t.args.length ≤ 8) && t.next.length == 1 && decide (0 ≤ t.n) && decide (t.n < 32) else
  if t.kind = 3 then t.ints == false && t.tags.length == 0 && t.args.length == 1 && t.next.length == 1 && decide (0 ≤ t.n) && decide (t.n < 8) else
  if t.kind = 9 then t.ints == false && t.tags.length == 0 && decide (t.args.length ≤ 64) && t.next.length == 1 && decide (0 ≤ t.n) && decide (t.n < nf) && decide (t.n ≠ main) else
  if t.kind = 10 then t.ints == false && t.tags.length == 0 && t.args.length == 1 && t.next.length == 1 && decide (0 ≤ t.n) && decide (t.n < 64) else
  t.x == 0 && t.n == 0 && (
    if t.kind = 5 then t.ints == false && t.tags.length == 0 && decide (1 ≤ t.args.length) && decide (t.args.length ≤ 17) && t.next.length == 0 else
    if t.kind = 6 then t.args.length == 1 && taggedB t else
    if t.kind = 7 then t.ints == false && t.tags.length == 0 && t.args.length == 1 && t.next.length == 1 else
    if t.kind = 8 then t.ints == false && t.tags.length == 0 && t.args.length == 1 && t.next.length == 0 else false))
theorem formedB_1 {nf : Nat} {main : Int} {t : Term} (h : t.kind = 1) : formedB nf main t = decide (t.funs = [] ∧ t.ints = false ∧ t.tags = [] ∧ t.args.length = 2 ∧ t.next.length = 1 ∧ 1 ≤ t.n ∧ t.n ≤ 7) := by
  rw [Bool.eq_iff_iff, decide_eq_true_iff]
  by_cases hf : t.funs = [] <;> by_cases hg : t.tags = [] <;> cases hi : t.ints <;> by_cases hx : t.x = 0 <;> by_cases hn : t.n = 0 <;> simp [formedB, h, hf, hg, hi, hx, hn, and_assoc]
theorem formedB_2 {nf : Nat} {main : Int} {t : Term} (h : t.kind = 2) : formedB nf main t = decide (t.funs = [] ∧ t.ints = false ∧ t.tags = [] ∧ t.args.length ≤ 8 ∧ t.next.length = 1 ∧ 0 ≤ t.n ∧ t.n < 32) := by
  rw [Bool.eq_iff_iff, decide_eq_true_iff]
  by_cases hf : t.funs = [] <;> by_cases hg : t.tags = [] <;> cases hi : t.ints <;> by_cases hx : t.x = 0 <;> by_cases hn : t.n = 0 <;> simp [formedB, h, hf, hg, hi, hx, hn, and_assoc]
theorem formedB_3 {nf : Nat} {main : Int} {t : Term} (h : t.kind = 3) : formedB nf main t = decide (t.funs = [] ∧ t.ints = false ∧ t.tags = [] ∧ t.args.length = 1 ∧ t.next.length = 1 ∧ 0 ≤ t.n ∧ t.n < 8) := by
  rw [Bool.eq_iff_iff, decide_eq_true_iff]
  by_cases hf : t.funs = [] <;> by_cases hg : t.tags = [] <;> cases hi : t.ints <;> by_cases hx : t.x = 0 <;> by_cases hn : t.n = 0 <;> simp [formedB, h, hf, hg, hi, hx, hn, and_assoc]
theorem formedB_9 {nf : Nat} {main : Int} {t : Term} (h : t.kind = 9) : formedB nf main t = decide (t.funs = [] ∧ t.ints = false ∧ t.tags = [] ∧ t.args.length ≤ 64 ∧ t.next.length = 1 ∧ 0 ≤ t.n ∧ t.n < nf ∧ t.n ≠ main) := by
  rw [Bool.eq_iff_iff, decide_eq_true_iff]
  by_cases hf : t.funs = [] <;> by_cases hg : t.tags = [] <;> cases hi : t.ints <;> by_cases hx : t.x = 0 <;> by_cases hn : t.n = 0 <;> simp [formedB, h, hf, hg, hi, hx, hn, and_assoc]
theorem formedB_10 {nf : Nat} {main : Int} {t : Term} (h : t.kind = 10) : formedB nf main t = decide (t.funs = [] ∧ t.ints = false ∧ t.tags = [] ∧ t.args.length = 1 ∧ t.next.length = 1 ∧ 0 ≤ t.n ∧ t.n < 64) := by
  rw [Bool.eq_iff_iff, decide_eq_true_iff]
  by_cases hf : t.funs = [] <;> by_cases hg : t.tags = [] <;> cases hi : t.ints <;> by_cases hx : t.x = 0 <;> by_cases hn : t.n = 0 <;> simp [formedB, h, hf, hg, hi, hx, hn, and_assoc]
theorem formedB_5 {nf : Nat} {main : Int} {t : Term} (h : t.kind = 5) : formedB nf main t = decide (t.funs = [] ∧ t.x = 0 ∧ t.n = 0 ∧ t.ints = false ∧ t.tags = [] ∧ 1 ≤ t.args.length ∧ t.args.length ≤ 17 ∧ t.next.length = 0) := by
  rw [Bool.eq_iff_iff, decide_eq_true_iff]
  by_cases hf : t.funs = [] <;> by_cases hg : t.tags = [] <;> cases hi : t.ints <;> by_cases hx : t.x = 0 <;> by_cases hn : t.n = 0 <;> simp [formedB, h, hf, hg, hi, hx, hn, and_assoc]
theorem formedB_6 {nf : Nat} {main : Int} {t : Term} (h : t.kind = 6) : formedB nf main t = decide (t.funs = [] ∧ t.x = 0 ∧ t.n = 0 ∧ t.args.length = 1 ∧ taggedB t = true) := by
  rw [Bool.eq_iff_iff, decide_eq_true_iff]
  by_cases hf : t.funs = [] <;> by_cases hg : t.tags = [] <;> cases hi : t.ints <;> by_cases hx : t.x = 0 <;> by_cases hn : t.n = 0 <;> simp [formedB, h, hf, hg, hi, hx, hn, and_assoc]
theorem formedB_7 {nf : Nat} {main : Int} {t : Term} (h : t.kind = 7) : formedB nf main t = decide (t.funs = [] ∧ t.x = 0 ∧ t.n = 0 ∧ t.ints = false ∧ t.tags = [] ∧ t.args.length = 1 ∧ t.next.length = 1) := by
  rw [Bool.eq_iff_iff, decide_eq_true_iff]
  by_cases hf : t.funs = [] <;> by_cases hg : t.tags = [] <;> cases hi : t.ints <;> by_cases hx : t.x = 0 <;> by_cases hn : t.n = 0 <;> simp [formedB, h, hf, hg, hi, hx, hn, and_assoc]
theorem formedB_8 {nf : Nat} {main : Int} {t : Term} (h : t.kind = 8) : formedB nf main t = decide (t.funs = [] ∧ t.x = 0 ∧ t.n = 0 ∧ t.ints = false ∧ t.tags = [] ∧ t.args.length = 1 ∧ t.next.length = 0) := by
  rw [Bool.eq_iff_iff, decide_eq_true_iff]
  by_cases hf : t.funs = [] <;> by_cases hg : t.tags = [] <;> cases hi : t.ints <;> by_cases hx : t.x = 0 <;> by_cases hn : t.n = 0 <;> simp [formedB, h, hf, hg, hi, hx, hn, and_assoc]
theorem formedB_4 {nf : Nat} {main : Int} {t : Term} (h : t.kind = 4) : formedB nf main t = false := by
  simp [formedB, h]
theorem formedB_no {nf : Nat} {main : Int} {t : Term} (h : ¬ t.kind = 1 ∧ ¬ t.kind = 2 ∧ ¬ t.kind = 3 ∧ ¬ t.kind = 5 ∧ ¬ t.kind = 6 ∧ ¬ t.kind = 7 ∧ ¬ t.kind = 8 ∧ ¬ t.kind = 9 ∧ ¬ t.kind = 10) : formedB nf main t = false := by
  obtain ⟨h1, h2, h3, h5, h6, h7, h8, h9, h10⟩ := h
  simp [formedB, h1, h2, h3, h5, h6, h7, h8, h9, h10]
end Go.Proofs.Ytimljadlfhccpaa
