/- Maps keyed by int: 'm[k], n[l] = v, u': the entry first, the store behind. The document's walker binds a variable. -/
import Derived.Test.YtimljadlfhccpaaMB
import Derived.Test.YtimljadlfhccpaaProg
import Derived.Test.YtimljadlfhccpaaMP
import Derived.Test.YtimljadlfhccpaaShape2
set_option linter.all false
set_option linter.all false
set_option linter.all false
namespace Go.Proofs.Ytimljadlfhccpaa
open Go.RowKit Go.MapKept

/-- Block b is such a map, and stamp s is that of the entry of key k. -/
def IStamp (w : World) (b : Nat) (es : List (Int × Value)) (k : Int) (s : Nat) : Prop :=
  ∃ (ents : Array MapEntry) (clock : Nat), w.heap[b]? = some (.map ents clock) ∧ ents.toList.map (fun e => (e.key, e.val)) = es.map (fun p => (Value.int .i64 p.1, p.2)) ∧
    (es.map (·.1)).Nodup ∧ ents.toList.Pairwise (fun x y => x.born < y.born) ∧ (∀ e ∈ ents.toList, e.born < clock) ∧
    ∃ j, ∃ hj : j < es.length, ∃ hj' : j < ents.size, es[j].1 = k ∧ ents[j].born = s
theorem IStamp.lt {w : World} {b es k s} (h : IStamp w b es k s) : b < w.heap.size := by
  obtain ⟨ents, c, hb, _⟩ := h
  exact (Array.getElem?_eq_some_iff.1 hb).1
theorem IStamp.same {w w' : World} {b es k s} (h : IStamp w b es k s) (hb : w'.heap[b]? = w.heap[b]?) : IStamp w' b es k s := by
  obtain ⟨ents, c, h1, h2⟩ := h
  exact ⟨ents, c, hb.trans h1, h2⟩
section
variable {P : Program} {w : World} {b : Nat} {es : List (Int × Value)}
theorem run_mapEntry_I {T K E : TypeId} {z : Value} (ht : P.underlying T = some (.map K E)) (hk : P.underlying K = some (.int .i64)) (hz : ∀ w : World, (zeroValue E).run P w = .ok z w) (h : IMap w b es) (k : Int) :
    ∃ v s w1, (Instr.mapEntry T (.map (some b)) (.int .i64 k)).run P w = .ok (.tuple #[v, .int .i64 (s : Nat)]) w1 ∧ (IStamp w1 b (putA es k ((assoc es k).getD z)) k s) ∧ w.grownBy w1 (some b) ∧ w1.heap.size = w.heap.size := by
  obtain ⟨ents, clock, hb, hm, hn, hp, hc⟩ := h
  obtain ⟨r, hr, ha, hx⟩ := findNow_I k .i64 ents.toList es 0 hm
  have hg : (getObj b).run P w = .ok (.map ents clock) w := by simp [getObj, Sem.run, hb]
  have hbl : b < w.heap.size := (Array.getElem?_eq_some_iff.1 hb).1
  have hset : ∀ o, (setObj b o).run P w = .ok () { w with heap := w.heap.setIfInBounds b o } := fun o => by simp [setObj, Sem.run, hb]
  have hgrow : ∀ o, w.grownBy { w with heap := w.heap.setIfInBounds b o } (some b) := fun o =>
    ⟨rfl, rfl, rfl, by simp, fun j _ hne => by
      show (w.heap.setIfInBounds b o)[j]? = _
      rw [Array.getElem?_setIfInBounds_ne]; intro e; exact hne (by rw [e])⟩
  have hat : ∀ o, ({ w with heap := w.heap.setIfInBounds b o } : World).heap[b]? = some o := fun o => by
    show (w.heap.setIfInBounds b o)[b]? = _
    simp [hbl]
  cases hc' : r with
  | none =>
    have hno : assoc es k = none := by rw [← ha, hc']; rfl
    have hlen : ents.size = es.length := by simpa using congrArg List.length hm
    refine ⟨z, clock, _, ?_, ⟨ents.push { key := .int .i64 k, val := z, born := clock }, clock + 1, hat _, ?_, ?_, ?_, ?_, ents.size, ?_, by simp, ?_, by simp⟩, hgrow _, by simp⟩
    · simp [Instr.mapEntry, run_underlying ht, hg, run_checkKey_I hk, Instr.findKey, run_underlying hk, hr, hc', hset, hz, goInt]
    · simp [hno, putA_new hno, hm]
    · rw [putA_keys, if_neg (assoc_none hno)]
      rw [List.nodup_append]
      exact ⟨hn, by simp, fun x hx' y hy e => by simp at hy; subst hy; subst e; exact assoc_none hno hx'⟩
    · rw [Array.toList_push, List.pairwise_append]
      exact ⟨hp, by simp, fun x hx y hy => by simp at hy; subst hy; exact hc x hx⟩
    · intro e he
      rw [Array.toList_push, List.mem_append] at he
      rcases he with he | he
      · have := hc e he; omega
      · simp at he; subst he; simp
    · rw [putA_new hno]; simp [hlen]
    · simp [putA_new hno, hlen]
  | some x =>
    obtain ⟨j, hj, hl, hkj, hall⟩ := hx x hc'
    have hjx : x.1 = j := by omega
    have hsome : assoc es k = some x.2 := by rw [← ha, hc']; rfl
    have hlen : ents.toList.length = es.length := by simpa using congrArg List.length hm
    have hje : j < ents.size := by rw [← hlen] at hl; simpa using hl
    have h1 := congrArg (fun l => l[j]?) hm
    simp only [List.getElem?_map] at h1
    rw [List.getElem?_eq_getElem hl, List.getElem?_eq_getElem (by simpa using hje)] at h1
    simp at h1
    have hkey : (ents[j]).key = .int .i64 k := by rw [h1.1, hkj]
    have hx2 : x.2 = es[j].2 := by
      have h2 := find_split hl hkj hall x.2
      have h3 : assoc es k = some es[j].2 := by
        have := assoc_put es k es[j].2 k
        rw [find_split hl hkj hall] at this
        have e : es.set j (k, es[j].2) = es := by
          rw [show (k, es[j].2) = es[j] by rw [← hkj]]
          exact List.set_getElem_self hl
        rw [e] at this
        simpa using this
      rw [hsome] at h3; injection h3
    have hst := run_keyThatStays (P := P) (w := w) (isKey_I k)
    have hput : putA es k ((assoc es k).getD z) = es := by
      rw [hsome, Option.getD_some, find_split hl hkj hall, show (k, x.2) = es[j] by rw [← hkj, hx2]]
      exact List.set_getElem_self hl
    have hmod : (ents.modify j fun e => { e with key := .int .i64 k }).toList.map (fun e => (e.key, e.val)) = ents.toList.map (fun e => (e.key, e.val)) := by
      rw [Array.toList_modify]
      apply List.ext_getElem?
      intro i
      rw [List.getElem?_map, List.getElem?_modify, List.getElem?_map]
      by_cases hij : j = i
      · subst hij
        rw [List.getElem?_eq_getElem (by simpa using hje)]
        simp [hkey]
      · cases ents.toList[i]? <;> simp [hij]
    refine ⟨x.2, ents[j].born, _, ?_, ⟨ents.modify j fun e => { e with key := .int .i64 k }, clock, hat _, ?_, ?_, ?_, ?_, j, ?_, by simpa using hje, ?_, ?_⟩, hgrow _, by simp⟩
    · simp [Instr.mapEntry, run_underlying ht, hg, run_checkKey_I hk, Instr.findKey, run_underlying hk, hr, hc', hset, hjx, Array.getElem?_eq_getElem hje, hkey, hst, goInt]
    · rw [hput, hmod, hm]
    · rw [hput]; exact hn
    · rw [Array.toList_modify]
      rw [← List.pairwise_map (f := fun e : MapEntry => e.born) (R := fun x y => x < y)] at hp ⊢
      rwa [show (ents.toList.modify j fun e => { e with key := .int .i64 k }).map (fun e => e.born) = ents.toList.map (fun e => e.born) from by
        apply List.ext_getElem?; intro i; rw [List.getElem?_map, List.getElem?_modify, List.getElem?_map]; split <;> simp [Function.comp_def]]
    · intro e he
      rw [Array.toList_modify] at he
      obtain ⟨i, hi, rfl⟩ := List.mem_iff_getElem.1 he
      rw [List.getElem_modify]
      have hi' : i < ents.toList.length := by simpa using hi
      have := hc _ (List.getElem_mem hi')
      split <;> exact this
    · rw [hput]; exact hl
    · simp only [hput]; exact hkj
    · simp [Array.getElem_modify]
theorem run_entryStore_I {T : TypeId} {k : Int} {s : Nat} (h : IStamp w b es k s) (v : Value) :
    ∃ w1, (Instr.entryStore T (.map (some b)) (.int .i64 s) v).run P w = .ok () w1 ∧ IMap w1 b (putA es k v) ∧ w.grownBy w1 (some b) ∧ w1.heap.size = w.heap.size := by
  obtain ⟨ents, clock, hb, hm, hn, hp, hc, j, hl, hje, hkj, hborn⟩ := h
  have hg : (getObj b).run P w = .ok (.map ents clock) w := by simp [getObj, Sem.run, hb]
  have hbl : b < w.heap.size := (Array.getElem?_eq_some_iff.1 hb).1
  have hset : ∀ o, (setObj b o).run P w = .ok () { w with heap := w.heap.setIfInBounds b o } := fun o => by simp [setObj, Sem.run, hb]
  have hgrow : ∀ o, w.grownBy { w with heap := w.heap.setIfInBounds b o } (some b) := fun o =>
    ⟨rfl, rfl, rfl, by simp, fun j _ hne => by
      show (w.heap.setIfInBounds b o)[j]? = _
      rw [Array.getElem?_setIfInBounds_ne]; intro e; exact hne (by rw [e])⟩
  have hat : ∀ o, ({ w with heap := w.heap.setIfInBounds b o } : World).heap[b]? = some o := fun o => by
    show (w.heap.setIfInBounds b o)[b]? = _
    simp [hbl]
  have hfind : ents.findIdx? (fun e => (e.born : Int) == (s : Int)) = some j := by
    rw [Array.findIdx?_eq_some_iff_getElem]
    refine ⟨hje, by simp [hborn], fun i hi => ?_⟩
    have h2 := (List.pairwise_iff_getElem.1 hp) i j (by simp; omega) (by simpa using hje) hi
    simp at h2
    have h3 : ents[i].born < s := by rw [← hborn]; exact h2
    simp; omega
  have hall : ∀ j' (h' : j' < j), es[j'].1 ≠ k := fun j' h' e => by
    have := (List.pairwise_iff_getElem.1 hn) j' j (by simp; omega) (by simpa using hl) h'
    simp at this
    exact this (e.trans hkj.symm)
  refine ⟨_, ?_, ⟨ents.modify j fun e => { e with val := v }, clock, hat _, ?_, ?_, ?_, ?_⟩, hgrow _, by simp⟩
  · simp [Instr.entryStore, hg, asInt, asIntOf, hfind, hset]
  · have hkey : ents.toList[j]?.map (fun e => e.key) = some (.int .i64 k) := by
      have h1 := congrArg (fun l => l[j]?) hm
      simp only [List.getElem?_map] at h1
      rw [List.getElem?_eq_getElem hl, List.getElem?_eq_getElem (by simpa using hje)] at h1
      simp at h1
      rw [List.getElem?_eq_getElem (by simpa using hje)]
      simp [h1.1, hkj]
    rw [find_split hl hkj hall, Array.toList_modify, List.map_set]
    apply List.ext_getElem?
    intro i
    have h1 := congrArg (fun l => l[i]?) hm
    simp only [List.getElem?_map] at h1
    rw [List.getElem?_map, List.getElem?_modify, List.getElem?_set]
    by_cases hij : j = i
    · subst hij
      simp only [if_true]
      rw [List.getElem?_eq_getElem (by simpa using hje)] at hkey ⊢
      simp at hkey
      simp [hl, hkey]
    · simp only [if_neg hij]
      simpa using h1
  · rw [putA_keys, if_pos]
    · exact hn
    · exact List.mem_map.2 ⟨es[j], List.getElem_mem hl, hkj⟩
  · rw [Array.toList_modify]
    rw [← List.pairwise_map (f := fun e : MapEntry => e.born) (R := fun x y => x < y)] at hp ⊢
    rwa [show (ents.toList.modify j fun e => { e with val := v }).map (fun e => e.born) = ents.toList.map (fun e => e.born) from by
      apply List.ext_getElem?; intro i; rw [List.getElem?_map, List.getElem?_modify, List.getElem?_map]; split <;> simp [Function.comp_def]]
  · intro e he
    rw [Array.toList_modify] at he
    obtain ⟨i, hi, rfl⟩ := List.mem_iff_getElem.1 he
    rw [List.getElem_modify]
    have hi' : i < ents.toList.length := by simpa using hi
    have := hc _ (List.getElem_mem hi')
    split <;> exact this
theorem putA_putA (es : List (Int × Value)) (k : Int) (u v : Value) : putA (putA es k u) k v = putA es k v := by
  induction es with
  | nil => simp [putA]
  | cons p r ih =>
    simp only [putA]
    by_cases h : p.1 = k
    · simp [h, putA]
    · simp [h, putA, ih]
end
end Go.Proofs.Ytimljadlfhccpaa
namespace Go.Proofs.Ytimljadlfhccpaa
open Go.RowKit
set_option maxHeartbeats 1000000

/-- The walker in block wb: the program, the two maps, whether all is well. -/
structure Wk (wb eb hb : Nat) (Fb : Option Addr) (nf Fc : Nat) (main : Int) (w : World) (E H : List Int) (ok : Bool) : Prop where
  c0 : w.cell? ⟨wb, 0, none⟩ = some (.slice Fb nf Fc)
  c1 : w.cell? ⟨wb, 1, none⟩ = some (.int .i64 main)
  c2 : w.cell? ⟨wb, 2, none⟩ = some (.map (some eb))
  c3 : w.cell? ⟨wb, 3, none⟩ = some (.map (some hb))
  c4 : w.cell? ⟨wb, 4, none⟩ = some (.bool ok)
  fz : w.frozen? ⟨wb, 4, none⟩ = false
  ne : eb ≠ hb
  ne1 : wb ≠ eb
  ne2 : wb ≠ hb
  sub : ∀ x ∈ H, x ∈ E
  mets : ∃ es, IMap w eb es ∧ MetM es E
  ards : ∃ es, IMap w hb es ∧ ArdM es H
section
variable {wb eb hb : Nat} {Fb : Option Addr} {nf Fc : Nat} {main : Int} {w : World} {E H : List Int} {ok : Bool}
theorem Wk.lt (h : Wk wb eb hb Fb nf Fc main w E H ok) : wb < w.heap.size := World.block_lt_of_cell? w ⟨wb, 0, none⟩ h.c0
theorem Wk.lte (h : Wk wb eb hb Fb nf Fc main w E H ok) : eb < w.heap.size := by obtain ⟨es, h1, _⟩ := h.mets; exact h1.lt
theorem Wk.lth (h : Wk wb eb hb Fb nf Fc main w E H ok) : hb < w.heap.size := by obtain ⟨es, h1, _⟩ := h.ards; exact h1.lt
theorem Wk.later (h : Wk wb eb hb Fb nf Fc main w E H ok) {w' : World} (hb' : Below w.heap.size w w') : Wk wb eb hb Fb nf Fc main w' E H ok := by
  obtain ⟨es, h1, h2⟩ := h.mets
  obtain ⟨es', h1', h2'⟩ := h.ards
  exact ⟨(hb'.cell h.lt).trans h.c0, (hb'.cell h.lt).trans h.c1, (hb'.cell h.lt).trans h.c2, (hb'.cell h.lt).trans h.c3, (hb'.cell h.lt).trans h.c4, (hb'.frozen h.lt).trans h.fz, h.ne, h.ne1, h.ne2, h.sub, ⟨es, h1.below hb', h2⟩, ⟨es', h1'.below hb', h2'⟩⟩
theorem Wk.drew (h : Wk wb eb hb Fb nf Fc main w E H ok) : Wk wb eb hb Fb nf Fc main w.drew E H ok := by
  obtain ⟨c0, c1, c2, c3, c4, fz, ne, ne1, ne2, sub, ⟨es, h1, h2⟩, ⟨es', h1', h2'⟩⟩ := h
  exact ⟨c0, c1, c2, c3, c4, fz, ne, ne1, ne2, sub, ⟨es, h1, h2⟩, ⟨es', h1', h2'⟩⟩
end
section
variable {P : Program} {W : World} {eb hb : Nat} {esE esH : List (Int × Value)}
/-- Both maps bear the key. -/
def Both (W : World) (eb hb : Nat) (esE esH : List (Int × Value)) (n : Int) (v : Value) (X : World) : Prop := IMap X eb (putA esE n v) ∧ IMap X hb (putA esH n v) ∧ Kept [eb, hb] W X ∧ (∀ k, k ≠ eb → k ≠ hb → k < W.heap.size → X.heap[k]? = W.heap[k]?)
theorem both_mk {X : World} {n : Int} {v : Value} (h1 : IMap X eb (putA esE n v)) (h2 : IMap X hb (putA esH n v)) (h : Kept [eb, hb] W X) : Both W eb hb esE esH n v X :=
  ⟨h1, h2, h, fun k h1 h2 hk => h.block k hk (by simp [h1, h2])⟩
theorem entries {T K E : TypeId} {z : Value} (ht : P.underlying T = some (.map K E)) (hk : P.underlying K = some (.int .i64)) (hz : ∀ w : World, (zeroValue E).run P w = .ok z w) (hE : IMap W eb esE) (hH : IMap W hb esH) (ne : eb ≠ hb) (n : Int) (v : Value) :
    ∃ vE sE W1 vH sH W2 W3 W4 V2 vV sV V3 V4 vU sU U1 vX sX U2 U3 U4, (Instr.mapEntry T (.map (some eb)) (.int .i64 n)).run P W = .ok (.tuple #[vE, .int .i64 (sE : Nat)]) W1 ∧ (Instr.mapEntry T (.map (some hb)) (.int .i64 n)).run P W1 = .ok (.tuple #[vH, .int .i64 (sH : Nat)]) W2 ∧ (Instr.entryStore T (.map (some eb)) (.int .i64 (sE : Nat)) v).run P W2 = .ok () W3 ∧ (Instr.entryStore T (.map (some hb)) (.int .i64 (sH : Nat)) v).run P W3 = .ok () W4 ∧ Hid (Both W eb hb esE esH n v W4) ∧
      (Instr.entryStore T (.map (some eb)) (.int .i64 (sE : Nat)) v).run P W1 = .ok () V2 ∧ (Instr.mapEntry T (.map (some hb)) (.int .i64 n)).run P V2 = .ok (.tuple #[vV, .int .i64 (sV : Nat)]) V3 ∧ (Instr.entryStore T (.map (some hb)) (.int .i64 (sV : Nat)) v).run P V3 = .ok () V4 ∧ Hid (Both W eb hb esE esH n v V4) ∧
      (Instr.mapEntry T (.map (some hb)) (.int .i64 n)).run P W = .ok (.tuple #[vU, .int .i64 (sU : Nat)]) U1 ∧ (Instr.mapEntry T (.map (some eb)) (.int .i64 n)).run P U1 = .ok (.tuple #[vX, .int .i64 (sX : Nat)]) U2 ∧ (Instr.entryStore T (.map (some eb)) (.int .i64 (sX : Nat)) v).run P U2 = .ok () U3 ∧ (Instr.entryStore T (.map (some hb)) (.int .i64 (sU : Nat)) v).run P U3 = .ok () U4 ∧ Hid (Both W eb hb esE esH n v U4) := by
  obtain ⟨vE, sE, W1, r1, i1, g1, _⟩ := run_mapEntry_I ht hk hz hE n
  have hH1 := hH.same (g1.block hb hH.lt (by simp [ne.symm]))
  obtain ⟨vH, sH, W2, r2, i2, g2, _⟩ := run_mapEntry_I ht hk hz hH1 n
  obtain ⟨W3, r3, i3, g3, _⟩ := run_entryStore_I (P := P) (T := T) (i1.same (g2.block eb i1.lt (by simp [ne]))) v
  obtain ⟨W4, r4, i4, g4, _⟩ := run_entryStore_I (P := P) (T := T) (i2.same (g3.block hb i2.lt (by simp [ne.symm]))) v
  rw [putA_putA] at i3 i4
  obtain ⟨V2, q2, j2, f2, _⟩ := run_entryStore_I (P := P) (T := T) i1 v
  rw [putA_putA] at j2
  have hH2 := hH1.same (f2.block hb hH1.lt (by simp [ne.symm]))
  obtain ⟨vV, sV, V3, q3, j3, f3, _⟩ := run_mapEntry_I ht hk hz hH2 n
  obtain ⟨V4, q4, j4, f4, _⟩ := run_entryStore_I (P := P) (T := T) j3 v
  rw [putA_putA] at j4
  obtain ⟨vU, sU, U1, p1, k1, e1, _⟩ := run_mapEntry_I ht hk hz hH n
  have hE1 := hE.same (e1.block eb hE.lt (by simp [ne]))
  obtain ⟨vX, sX, U2, p2, k2, e2, _⟩ := run_mapEntry_I ht hk hz hE1 n
  obtain ⟨U3, p3, k3, e3, _⟩ := run_entryStore_I (P := P) (T := T) k2 v
  rw [putA_putA] at k3
  have k1' := (k1.same (e2.block hb k1.lt (by simp [ne.symm])))
  obtain ⟨U4, p4, k4, e4, _⟩ := run_entryStore_I (P := P) (T := T) (k1'.same (e3.block hb k1'.lt (by simp [ne.symm]))) v
  rw [putA_putA] at k4
  refine ⟨vE, sE, W1, vH, sH, W2, W3, W4, V2, vV, sV, V3, V4, vU, sU, U1, vX, sX, U2, U3, U4, r1, r2, r3, r4, ?_, q2, q3, q4, ?_, p1, p2, p3, p4, ?_⟩
  · exact both_mk (i3.same (g4.block eb i3.lt (by simp [ne]))) i4 (((Kept.grown g1 (by simp)).trans (Kept.grown g2 (by simp))).trans ((Kept.grown g3 (by simp)).trans (Kept.grown g4 (by simp))))
  · exact both_mk ((j2.same (f3.block eb j2.lt (by simp [ne]))).same (f4.block eb (Nat.lt_of_lt_of_le j2.lt f3.size) (by simp [ne]))) j4 (((Kept.grown g1 (by simp)).trans (Kept.grown f2 (by simp))).trans ((Kept.grown f3 (by simp)).trans (Kept.grown f4 (by simp))))
  · exact both_mk (k3.same (e4.block eb k3.lt (by simp [ne]))) k4 (((Kept.grown e1 (by simp)).trans (Kept.grown e2 (by simp))).trans ((Kept.grown e3 (by simp)).trans (Kept.grown e4 (by simp))))
end
theorem wk_set {wb eb hb : Nat} {Fb : Option Addr} {nf Fc : Nat} {main : Int} {w : World} {E H : List Int} {ok : Bool} (h : Wk wb eb hb Fb nf Fc main w E H ok) (b : Bool) :
    Wk wb eb hb Fb nf Fc main (w.setCell ⟨wb, 4, none⟩ (.bool b)) E H b ∧ Kept [wb, eb, hb] w (w.setCell ⟨wb, 4, none⟩ (.bool b)) := by
  have hlt := h.lt
  obtain ⟨c0, c1, c2, c3, c4, fz, ne, ne1, ne2, sub, ⟨es, i1, h2⟩, ⟨es', i1', h2'⟩⟩ := h
  have hk : ∀ k, k ≠ wb → (w.setCell ⟨wb, 4, none⟩ (.bool b)).heap[k]? = w.heap[k]? := fun k hk => Below.heap_setCell w ⟨wb, 4, none⟩ _ k hk
  refine ⟨⟨?_, ?_, ?_, ?_, ?_, ?_, ne, ne1, ne2, sub, ⟨es, i1.same (hk _ (fun e => ne1 e.symm)), h2⟩, ⟨es', i1'.same (hk _ (fun e => ne2 e.symm)), h2'⟩⟩, ⟨rfl, rfl, rfl, by simp [World.setCell], fun k _ hs => hk k (fun e => hs (by simp [e]))⟩⟩
  · rw [World.cell?_setCell_other]; exact c0; simp
  · rw [World.cell?_setCell_other]; exact c1; simp
  · rw [World.cell?_setCell_other]; exact c2; simp
  · rw [World.cell?_setCell_other]; exact c3; simp
  · exact World.cell?_setCell_same _ _ _ c4
  · rw [World.frozen?_setCell]; exact fz
theorem wk_both {wb eb hb : Nat} {Fb : Option Addr} {nf Fc : Nat} {main : Int} {w X : World} {E H : List Int} {ok : Bool} {esE esH : List (Int × Value)} {n : Int} (h : Wk wb eb hb Fb nf Fc main w E H ok) (hE : MetM esE E) (hH : ArdM esH H)
    (hb' : Both w.drew eb hb esE esH n (.int .i64 1) X) : Wk wb eb hb Fb nf Fc main X (n :: E) (n :: H) ok ∧ Kept [wb, eb, hb] w X := by
  have hlt := h.lt
  obtain ⟨c0, c1, c2, c3, c4, fz, ne, ne1, ne2, sub, _, _⟩ := h
  obtain ⟨i1, i2, kp, _⟩ := hb'
  have hk : X.heap[wb]? = w.heap[wb]? := kp.block wb hlt (by simp [ne1, ne2])
  have hc : ∀ j, X.cell? ⟨wb, j, none⟩ = w.cell? ⟨wb, j, none⟩ := fun j => World.cell?_of_block hk
  refine ⟨⟨(hc 0).trans c0, (hc 1).trans c1, (hc 2).trans c2, (hc 3).trans c3, (hc 4).trans c4, (World.frozen?_of_block (a := ⟨wb, 4, none⟩) hk).trans fz, ne, ne1, ne2, ?_, ⟨_, i1, hE.put⟩, ⟨_, i2, hH.put⟩⟩,
    ⟨kp.os, kp.tape, kp.output, kp.size, fun k hk' hs => kp.block k hk' (by simp at hs ⊢; exact ⟨hs.2.1, hs.2.2⟩)⟩⟩
  intro x hx
  rcases List.mem_cons.1 hx with rfl | hx
  · exact List.mem_cons_self
  · exact List.mem_cons_of_mem _ (sub x hx)
set_option maxRecDepth 100000 in
theorem rbind_ok {wb eb hb : Nat} {Fb : Option Addr} {nf Fc : Nat} {main : Int} {w : World} {E H : List Int} {ok : Bool} (hk : Wk wb eb hb Fb nf Fc main w E H ok) (n : Int) (h1 : mayBind E n = true) :
    Calls Try.prog 23 #[.pointer (some ⟨wb, 0, none⟩), .int .i64 n] w fun e w' => e = .returned (.tuple #[]) ∧ Kept [wb, eb, hb] w w' ∧ Wk wb eb hb Fb nf Fc main w' (n :: E) (n :: H) ok := by
  have HK := Lib.hid hk
  obtain ⟨c0, c1, c2, c3, c4, fz, ne, ne1, ne2, sub, ⟨esE, IE, ME⟩, ⟨esH, IH, MH⟩⟩ := hk
  simp only [mayBind, Bool.and_eq_true, decide_eq_true_eq, Bool.not_eq_true'] at h1
  obtain ⟨⟨hc, h0⟩, h2⟩ := h1
  have hn := ME n
  rw [hc, if_neg (by simp)] at hn
  have hlk := run_lookup_I Try.underlying52 Try.underlying3 zero_int IE n false
  rw [hn] at hlk
  obtain ⟨vE, sE, W1, vH, sH, W2, W3, W4, V2, vV, sV, V3, V4, vU, sU, U1, vX, sX, U2, U3, U4, r1, r2, r3, r4, B1, q2, q3, q4, B2, p1, p2, p3, p4, B3⟩ := entries (W := w.drew) Try.underlying52 Try.underlying3 zero_int (IE.same rfl) (IH.same rfl) ne n (.int .i64 1)
  have HM := Lib.hid ME; have HA := Lib.hid MH
  clear ME MH IE IH hn hc sub
  go_enter Try.func23, Try.ntmps23
  go_wp2_with fail
  go_region
  all_goals go_wp2_with fail
  all_goals go_end0
  all_goals refine ⟨rfl, ?_⟩
  all_goals first | exact (wk_both HK.out HM.out HA.out B1.out).symm | exact (wk_both HK.out HM.out HA.out B2.out).symm | exact (wk_both HK.out HM.out HA.out B3.out).symm
set_option maxRecDepth 100000 in
theorem rbind_no {wb eb hb : Nat} {Fb : Option Addr} {nf Fc : Nat} {main : Int} {w : World} {E H : List Int} {ok : Bool} (hk : Wk wb eb hb Fb nf Fc main w E H ok) (n : Int) (h1 : mayBind E n = false) :
    Calls Try.prog 23 #[.pointer (some ⟨wb, 0, none⟩), .int .i64 n] w fun e w' => e = .returned (.tuple #[]) ∧ Kept [wb, eb, hb] w w' ∧ Wk wb eb hb Fb nf Fc main w' (n :: E) (n :: H) false := by
  obtain ⟨hk1, hkp⟩ := wk_set hk false
  have HK := Lib.hid hk1
  have HKP := Lib.hid hkp
  obtain ⟨esE0, IE0, ME0⟩ := hk.mets
  have hn := ME0 n
  have hlk := run_lookup_I Try.underlying52 Try.underlying3 zero_int IE0 n false
  obtain ⟨c0, c1, c2, c3, c4, fz, ne, ne1, ne2, sub, _, _⟩ := hk
  obtain ⟨d0, d1, d2, d3, d4, dz, _, _, _, _, ⟨esE, IE, ME⟩, ⟨esH, IH, MH⟩⟩ := hk1
  obtain ⟨vE, sE, W1, vH, sH, W2, W3, W4, V2, vV, sV, V3, V4, vU, sU, U1, vX, sX, U2, U3, U4, r1, r2, r3, r4, B1, q2, q3, q4, B2, p1, p2, p3, p4, B3⟩ := entries (W := (w.setCell ⟨wb, 4, none⟩ (.bool false)).drew) Try.underlying52 Try.underlying3 zero_int (IE.same rfl) (IH.same rfl) ne n (.int .i64 1)
  have HM := Lib.hid ME; have HA := Lib.hid MH
  clear ME MH IE IH sub ME0 IE0 hkp d0 d1 d4 dz
  by_cases h0 : n < 0
  · clear hn hlk
    go_enter Try.func23, Try.ntmps23
    go_wp2_with fail
    go_region
    all_goals go_wp2_with fail
    all_goals go_end0
    all_goals refine ⟨rfl, ?_⟩
    all_goals first | exact ⟨HKP.out.trans (wk_both HK.out HM.out HA.out B1.out).2, (wk_both HK.out HM.out HA.out B1.out).1⟩ | exact ⟨HKP.out.trans (wk_both HK.out HM.out HA.out B2.out).2, (wk_both HK.out HM.out HA.out B2.out).1⟩ | exact ⟨HKP.out.trans (wk_both HK.out HM.out HA.out B3.out).2, (wk_both HK.out HM.out HA.out B3.out).1⟩
  by_cases h2 : 262144 < n
  · clear hn hlk
    go_enter Try.func23, Try.ntmps23
    go_wp2_with fail
    go_region
    all_goals go_wp2_with fail
    all_goals go_end0
    all_goals refine ⟨rfl, ?_⟩
    all_goals first | exact ⟨HKP.out.trans (wk_both HK.out HM.out HA.out B1.out).2, (wk_both HK.out HM.out HA.out B1.out).1⟩ | exact ⟨HKP.out.trans (wk_both HK.out HM.out HA.out B2.out).2, (wk_both HK.out HM.out HA.out B2.out).1⟩ | exact ⟨HKP.out.trans (wk_both HK.out HM.out HA.out B3.out).2, (wk_both HK.out HM.out HA.out B3.out).1⟩
  have hc : E.contains n = true := by
    rw [← Bool.not_eq_false]; intro hc
    rw [mayBind_of hc (by omega) (by omega)] at h1; cases h1
  rw [hc, if_pos rfl] at hn
  rw [hn] at hlk
  clear hn hc h1
  go_enter Try.func23, Try.ntmps23
  go_wp2_with fail
  go_region
  all_goals go_wp2_with fail
  all_goals go_end0
  all_goals refine ⟨rfl, ?_⟩
  all_goals first | exact ⟨HKP.out.trans (wk_both HK.out HM.out HA.out B1.out).2, (wk_both HK.out HM.out HA.out B1.out).1⟩ | exact ⟨HKP.out.trans (wk_both HK.out HM.out HA.out B2.out).2, (wk_both HK.out HM.out HA.out B2.out).1⟩ | exact ⟨HKP.out.trans (wk_both HK.out HM.out HA.out B3.out).2, (wk_both HK.out HM.out HA.out B3.out).1⟩
theorem rbind {wb eb hb : Nat} {Fb : Option Addr} {nf Fc : Nat} {main : Int} {w : World} {E H : List Int} {ok : Bool} (hk : Wk wb eb hb Fb nf Fc main w E H ok) (n : Int) :
    Calls Try.prog 23 #[.pointer (some ⟨wb, 0, none⟩), .int .i64 n] w fun e w' => e = .returned (.tuple #[]) ∧ Kept [wb, eb, hb] w w' ∧ Wk wb eb hb Fb nf Fc main w' (n :: E) (n :: H) (ok && mayBind E n) := by
  cases h : mayBind E n with
  | true => rw [Bool.and_true]; exact rbind_ok hk n h
  | false => rw [Bool.and_false]; exact rbind_no hk n h
end Go.Proofs.Ytimljadlfhccpaa
