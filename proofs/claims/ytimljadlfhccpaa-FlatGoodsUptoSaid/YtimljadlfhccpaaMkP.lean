/- A region that draws its order, operation by operation, where some are wanted just if another one told so. No program in sight. The law FlatGoods, walked. -/
import Derived.Test.YtimljadlfhccpaaMRel
import Derived.Test.YtimljadlfhccpaaProg
import Derived.Test.YtimljadlfhccpaaMkO
import Derived.Test.YtimljadlfhccpaaMCp
import Derived.Test.YtimljadlfhccpaaRSame
set_option linter.all false
set_option linter.all false
namespace Go.Proofs.Ytimljadlfhccpaa
open Go.RowKit

section
variable {P : Program} {md : Region.Mode} {ops : Array Oper} {Q : Exit → Act → World → Prop}
def relOkG (md : Region.Mode) (ops : Array Oper) (St : List Nat) : Bool :=
  (St.all fun s => (ops[s]?).isSome) &&
  (St.all fun s => match ops[s]? with | some o => o.guard.isNone | none => true) &&
  ((List.range ops.size).all fun j => match ops[j]? with | some o => o.after.all fun e => !Region.binds md e || decide (e.on < j) | none => true) &&
  (St.all fun s => (List.range ops.size).all fun i => St.contains i || reachB md ops ops.size s i) &&
  forcedB md ops St (baseL ops.size St) &&
  decide (St.length ≤ ((List.range ops.size).filter fun i => St.contains i).length) &&
  nodupB (dstsOf ops)
theorem forced_wpG : ∀ (St : List Nat) (l : Array Bool) (fuel : Nat) (a : Act) (w : World), (∀ s ∈ St, ∀ o, ops[s]? = some o → o.guard = none) → forcedB md ops St l = true → St.length ≤ fuel → wpList P ops Q (St.filterMap (ops[·]?)) a w → (∀ s ∈ St, (ops[s]?).isSome = true) → wpAny P md ops Q fuel l a w
  | [], l, fuel, a, w, _, hf, _, h, _ => by
    have hr : Region.ready md ops l = [] := by simpa [forcedB] using hf
    simp only [List.filterMap_nil, wpList] at h
    cases fuel with
    | zero => exact ⟨hr, h⟩
    | succ f => exact ⟨fun _ => h, fun i hi => by rw [hr] at hi; cases hi⟩
  | s :: r, l, fuel, a, w, hg, hf, hl, h, hS => by
    simp only [forcedB, Bool.and_eq_true, beq_iff_eq] at hf
    cases fuel with
    | zero => simp at hl
    | succ f =>
      refine ⟨fun h0 => (by rw [hf.1] at h0; cases h0), fun i hi => ?_⟩
      rw [hf.1] at hi
      obtain rfl : i = s := by simpa using hi
      obtain ⟨o, ho⟩ := Option.isSome_iff_exists.1 (hS i List.mem_cons_self)
      rw [List.filterMap_cons, ho] at h
      simp only [wpList] at h
      have hog : o.guard = none := hg i List.mem_cons_self o ho
      have hw : Region.wanted o (yielded ops a.tmps) = true := by simp [Region.wanted, hog]
      unfold wpOp
      simp only [ho, hw, if_true] at h ⊢
      exact h.imp (Oper.wp_mono fun a' w' h' => forced_wpG r _ f a' w' (fun t ht => hg t (List.mem_cons_of_mem _ ht)) hf.2 (by simpa using hl) h' (fun t ht => hS t (List.mem_cons_of_mem _ ht))) id
/-- One operation's word: whatever has been done ahead of it. -/
def RelOpG (P : Program) (Q : Exit → Act → World → Prop) (ops : Array Oper) (R : World → World → Prop) (Post : Nat → Value → World → Prop) (a0 : Act) (w0 : World) (i : Nat) (o : Oper) : Prop :=
  ∀ (a : Act) (w : World), R w0 w → (∀ d, (dstsOf ops).contains d = false → a.eval (.tmp d) = a0.eval (.tmp d)) →
    (∀ j p d, ops[j]? = some p → p.dst = some d → (o.after.any fun e => Region.binds .any e && e.on == j) = true → Post j (a.eval (.tmp d)) w) →
    (Region.wanted o (yielded ops a.tmps) = true ∧ ∀ K : Act → World → Prop, (∀ v w', R w w' → Post i v w' → K (a.put o.dst v) w') → o.wp P a w K Q) ∨ (Region.wanted o (yielded ops a.tmps) = false ∧ R w w ∧ Post i undef w)
def RelAllG (P : Program) (Q : Exit → Act → World → Prop) (ops : Array Oper) (R : World → World → Prop) (Post : Nat → Value → World → Prop) (a0 : Act) (w0 : World) (St : List Nat) : Nat → List Oper → Prop
  | _, [] => True
  | i, o :: r => (if St.contains i then True else RelOpG P Q ops R Post a0 w0 i o) ∧ RelAllG P Q ops R Post a0 w0 St (i + 1) r
theorem RelAllG.at {R : World → World → Prop} {Post : Nat → Value → World → Prop} {a0 : Act} {w0 : World} {St : List Nat} : ∀ (l : List Oper) (k : Nat), RelAllG P Q ops R Post a0 w0 St k l → ∀ i o, l[i]? = some o → St.contains (k + i) = false → RelOpG P Q ops R Post a0 w0 (k + i) o
  | [], _, _, i, o, h, _ => by simp at h
  | p :: r, k, hA, 0, o, h, hs => by
    simp only [List.getElem?_cons_zero, Option.some.injEq] at h
    subst h
    have := hA.1
    rw [Nat.add_zero] at hs ⊢
    rwa [if_neg (by rw [hs]; decide)] at this
  | p :: r, k, hA, i + 1, o, h, hs => by
    have := RelAllG.at r (k + 1) hA.2 i o (by simpa using h) (by rw [show k + 1 + i = k + (i + 1) from by omega]; exact hs)
    rwa [show k + 1 + i = k + (i + 1) from by omega] at this
theorem wp_relG {R : World → World → Prop} {Post : Nat → Value → World → Prop} {St : List Nat} {a0 : Act} {w0 : World} (hok : relOkG .any ops St = true) (hRt : ∀ a b c, R a b → R b c → R a c) (hst : ∀ i v w w', Post i v w → R w w' → Post i v w')
    (hsz : ∀ d ∈ dstsOf ops, d < a0.tmps.size) (hall : RelAllG P Q ops R Post a0 w0 St 0 ops.toList)
    (hend : ∀ (vals : Nat → Value) (w : World), R w0 w → (∀ i o d, ops[i]? = some o → o.dst = some d → St.contains i = false → Post i (vals i) w) → wpList P ops Q (St.filterMap (ops[·]?)) (fillA St vals 0 ops.toList a0) w) :
    ∀ (fuel : Nat) (l : Array Bool) (a : Act) (w : World), unl ops.size l ≤ fuel → RelInv R Post ops St a0 w0 l a w → wpAny P .any ops Q fuel l a w := by
  simp only [relOkG, Bool.and_eq_true, decide_eq_true_iff] at hok
  obtain ⟨⟨⟨⟨⟨⟨k1, k2⟩, k3⟩, k4⟩, k5⟩, k6⟩, k7⟩ := hok
  have hgS : ∀ s ∈ St, ∀ o, ops[s]? = some o → o.guard = none := fun s hs o ho => by
    have h := List.all_eq_true.1 k2 s hs
    rw [ho] at h
    simpa using h
  have hSt : ∀ s ∈ St, ∃ o, ops[s]? = some o ∧ True := fun s hs => by
    obtain ⟨o, ho⟩ := Option.isSome_iff_exists.1 (List.all_eq_true.1 k1 s hs)
    exact ⟨o, ho, trivial⟩
  have hinj := dst_inj ops.toList (nodupB_ne _ k7)
  intro fuel
  induction fuel with
  | zero =>
    intro l a w hf I
    have hnone : ∀ i, i < ops.size → l.getD i true = true := fun i hi => by
      by_cases h : l.getD i true = true
      · exact h
      · have h1 := unl_set hi (by simpa using h) I.size
        omega
    have hE : St = [] := by
      cases St with
      | nil => rfl
      | cons s r =>
        obtain ⟨o, ho, _⟩ := hSt s List.mem_cons_self
        have h1 := hnone s (Array.getElem?_eq_some_iff.1 ho).1
        rw [I.rest s List.mem_cons_self] at h1
        cases h1
    subst hE
    refine ⟨?_, ?_⟩
    · rw [List.eq_nil_iff_forall_not_mem]
      intro i hi
      obtain ⟨h0, o, ho, _⟩ := mem_ready.1 hi
      rw [hnone i (Array.getElem?_eq_some_iff.1 ho).1] at h0
      cases h0
    · have hv : fillA [] (fun i => match ops[i]? with | some o => (match o.dst with | some d => (a.tmps[d]?).getD undef | none => undef) | none => undef) 0 ops.toList a0 = a := by
        refine fillA_eq [] _ a ops.toList 0 a0 I.defers.symm I.tsize.symm (fun i o d ho hd _ => ?_) (fun d hnd => ?_)
        · have ho' : ops[i]? = some o := by simpa using ho
          obtain ⟨v, h1, _⟩ := I.told i o d ho' (hnone i (Array.getElem?_eq_some_iff.1 ho').1) hd
          rw [Nat.zero_add, ho']
          simp [hd, h1]
        · exact (I.old d (fun i o ho _ => hnd i o (by simpa using ho) (by simp))).symm
      have := hend _ w I.rel (fun i o d ho hd _ => by
        obtain ⟨v, h1, h2⟩ := I.told i o d ho (hnone i (Array.getElem?_eq_some_iff.1 ho).1) hd
        show Post i (match ops[i]? with | some o => (match o.dst with | some d => (a.tmps[d]?).getD undef | none => undef) | none => undef) w
        rw [ho]; simp only [hd, h1, Option.getD_some]; exact h2)
      rw [hv] at this
      exact this
  | succ fuel ih =>
    intro l a w hf I
    by_cases hB : ∀ i, i < ops.size → St.contains i = false → l.getD i true = true
    · -- the last ones alone are left
      have hbase : l = baseL ops.size St := by
        apply Array.ext_getElem?
        intro i
        by_cases hi : i < ops.size
        · have h1 : l[i]? = some (l.getD i true) := by simp [I.size, hi]
          rw [h1]
          unfold baseL
          simp only [List.getElem?_toArray, List.getElem?_map, List.getElem?_range hi, Option.map_some, Option.some.injEq]
          cases hc : St.contains i with
          | true => rw [I.rest i (by simpa using hc)]; rfl
          | false => rw [hB i hi hc]; rfl
        · rw [Array.getElem?_eq_none (by rw [I.size]; omega)]
          unfold baseL
          rw [List.getElem?_toArray, List.getElem?_eq_none (by simp; omega)]
      have hv : fillA St (fun i => match ops[i]? with | some o => (match o.dst with | some d => (a.tmps[d]?).getD undef | none => undef) | none => undef) 0 ops.toList a0 = a := by
        refine fillA_eq St _ a ops.toList 0 a0 I.defers.symm I.tsize.symm (fun i o d ho hd hs => ?_) (fun d hnd => ?_)
        · have ho' : ops[i]? = some o := by simpa using ho
          rw [Nat.zero_add] at hs ⊢
          obtain ⟨v, h1, _⟩ := I.told i o d ho' (hB i (Array.getElem?_eq_some_iff.1 ho').1 hs) hd
          rw [ho']
          simp [hd, h1]
        · refine (I.old d (fun i o ho hl => ?_)).symm
          cases hc : St.contains i with
          | true => rw [I.rest i (by simpa using hc)] at hl; cases hl
          | false => exact hnd i o (by simpa using ho) (by simpa using hc)
      have h := hend _ w I.rel (fun i o d ho hd hs => by
        obtain ⟨v, h1, h2⟩ := I.told i o d ho (hB i (Array.getElem?_eq_some_iff.1 ho).1 hs) hd
        show Post i (match ops[i]? with | some o => (match o.dst with | some d => (a.tmps[d]?).getD undef | none => undef) | none => undef) w
        rw [ho]; simp only [hd, h1, Option.getD_some]; exact h2)
      rw [hv] at h
      refine forced_wpG St l (fuel + 1) a w hgS (by rw [hbase]; exact k5) ?_ h (fun s hs => by obtain ⟨o, ho, _⟩ := hSt s hs; rw [ho]; rfl)
      refine Nat.le_trans k6 (Nat.le_trans (Nat.le_of_eq ?_) hf)
      unfold unl
      congr 1
      refine List.filter_congr (fun i hi => ?_)
      have hi' := List.mem_range.1 hi
      cases hc : St.contains i with
      | true => rw [I.rest i (by simpa using hc)]; rfl
      | false => rw [hB i hi' hc]; rfl
    · -- another one comes up
      obtain ⟨x, hx⟩ := Classical.not_forall.1 hB
      obtain ⟨hxn, hx⟩ := Classical.not_imp.1 hx
      obtain ⟨hxs, hxl⟩ := Classical.not_imp.1 hx
      have hxl : l.getD x true = false := by simpa using hxl
      have hto : ∀ i, l.getD i false = true → l.getD i true = true := fun i h => by
        by_cases hi : i < l.size
        · simpa [hi] using h
        · simp [hi] at h
      have hfr : ∀ i, i < ops.size → l.getD i true = true → l.getD i false = true := fun i hi h => by
        have : i < l.size := by rw [I.size]; exact hi
        simpa [this] using h
      refine ⟨fun h0 => ?_, fun j hj => ?_⟩
      · -- some one is ready
        exfalso
        have key : ∀ n, ∀ m, m < n → m < ops.size → l.getD m true = false → False := by
          intro n
          induction n with
          | zero => intro m hm; omega
          | succ n ihn =>
            intro m hm hms hml
            by_cases hmn : m < n
            · exact ihn m hmn hms hml
            · have hmr : m ∈ Region.ready .any ops l := by
                refine mem_ready.2 ⟨hml, ops[m], by simp [hms], fun e he hb => ?_⟩
                have h3 := List.all_eq_true.1 k3 m (List.mem_range.2 hms)
                simp only [Array.getElem?_eq_getElem hms] at h3
                have h4 := Array.all_eq_true_iff_forall_mem.1 h3 e he
                rw [hb] at h4
                have hlt : e.on < m := by simpa using h4
                by_cases hle : l.getD e.on true = true
                · exact hfr e.on (by omega) hle
                · exact (ihn e.on (by omega) (by omega) (by simpa using hle)).elim
              rw [h0] at hmr
              cases hmr
        exact key (x + 1) x (by omega) hxn hxl
      · obtain ⟨hjl, o, ho, hpre⟩ := mem_ready.1 hj
        have hjn : j < ops.size := (Array.getElem?_eq_some_iff.1 ho).1
        have hjs : St.contains j = false := by
          cases hc : St.contains j with
          | false => rfl
          | true =>
            exfalso
            have h4 := List.all_eq_true.1 (List.all_eq_true.1 k4 j (by simpa using hc)) x (List.mem_range.2 hxn)
            rw [Bool.or_eq_true] at h4
            rcases h4 with h4 | h4
            · rw [hxs] at h4; cases h4
            · have := hto x (reach_listed I.closed _ _ _ o ho hpre h4)
              rw [hxl] at this; cases this
        have hop := RelAllG.at ops.toList 0 hall j o (by simpa using ho) (by simpa using hjs)
        rw [Nat.zero_add] at hop
        have hA : ∀ d, (dstsOf ops).contains d = false → a.eval (.tmp d) = a0.eval (.tmp d) := fun d hd => by
          rw [eval_tmp, eval_tmp, I.old d (fun i p hp _ hpd => ?_)]
          have : d ∈ dstsOf ops := List.mem_filterMap.2 ⟨p, Array.mem_toList_iff.2 (Array.mem_of_getElem? hp), hpd⟩
          rw [List.contains_iff_mem.2 this] at hd
          cases hd
        have hB' : ∀ j p d, ops[j]? = some p → p.dst = some d → (o.after.any fun e => Region.binds .any e && e.on == j) = true → Post j (a.eval (.tmp d)) w := fun i p d hp hpd hany => by
          obtain ⟨e, he, hh⟩ := any_mem hany
          rw [Bool.and_eq_true] at hh
          have hei : e.on = i := by simpa using hh.2
          have hl := hto i (hei ▸ hpre e he hh.1)
          obtain ⟨u, h1, h2⟩ := I.told i p d hp hl hpd
          rw [eval_tmp, h1]; exact h2
        have fin : ∀ v w', R w w' → Post j v w' → wpAny P .any ops Q fuel (l.setIfInBounds j true) (a.put o.dst v) w' := fun v w' hR hP => by
          refine ih _ _ _ ?_ ?_
          · have := unl_set hjn hjl I.size; omega
          · have hset : ∀ i, i ≠ j → (l.setIfInBounds j true).getD i true = l.getD i true := fun i hi => getD_set_ne true (Ne.symm hi)
            have hsetj : (l.setIfInBounds j true).getD j true = true := by simp [I.size, hjn]
            refine ⟨by simp [I.size], ?_, ?_, by rw [put_defers]; exact I.defers, by rw [put_size]; exact I.tsize, ?_, ?_, hRt _ _ _ I.rel hR⟩
            · intro i p hp hl e he hb
              by_cases hij : i = j
              · subst hij
                rw [ho] at hp; injection hp with hp; subst hp
                exact getD_set_true (hpre e he hb)
              · have h5 : l.getD i false = true := by
                  have : (l.setIfInBounds j true).getD i false = l.getD i false := by simp only [Array.getD_eq_getD_getElem?, Array.getElem?_setIfInBounds, if_neg (Ne.symm hij)]
                  rw [this] at hl; exact hl
                exact getD_set_true (I.closed i p hp h5 e he hb)
            · intro s hs
              have hsj : s ≠ j := fun e => by subst e; rw [List.contains_iff_mem.2 hs] at hjs; cases hjs
              rw [hset s hsj]; exact I.rest s hs
            · intro d hnd
              have hod : o.dst ≠ some d := hnd j o ho hsetj
              rw [put_tmps, if_neg hod]
              refine I.old d (fun i p hp hl => ?_)
              by_cases hij : i = j
              · subst hij; rw [hjl] at hl; cases hl
              · exact hnd i p hp (by rw [hset i hij]; exact hl)
            · intro i p d hp hl hpd
              by_cases hij : i = j
              · subst hij
                rw [ho] at hp; injection hp with hp; subst hp
                have hdm : d ∈ dstsOf ops := List.mem_filterMap.2 ⟨o, Array.mem_toList_iff.2 (Array.mem_of_getElem? ho), hpd⟩
                exact ⟨v, by rw [put_tmps, if_pos hpd, if_pos (by rw [I.tsize]; exact hsz d hdm)], hP⟩
              · rw [hset i hij] at hl
                obtain ⟨u, h1, h2⟩ := I.told i p d hp hl hpd
                refine ⟨u, ?_, hst _ _ _ _ h2 hR⟩
                rw [put_tmps, if_neg (fun e => hij (hinj i j p o d (by simpa using hp) (by simpa using ho) hpd e))]
                exact h1
        rcases hop a w I.rel hA hB' with ⟨hw, hop⟩ | ⟨hw, hR, hP⟩
        · unfold wpOp
          simp only [ho, hw, if_true]
          exact .inl (hop _ fin)
        · unfold wpOp
          simp only [ho, hw, Bool.false_eq_true, if_false]
          exact fin _ _ hR hP
/-- **A drawn region, operation by operation.** -/
theorem wp_region_relG {id : Nat} {L : List Oper} {a0 : Act} {w0 : World} (St : List Nat) (R : World → World → Prop) (Post : Nat → Value → World → Prop) (hm : P.follows .mixedOrders = true) (hok : relOkG .any L.toArray St = true) (hRt : ∀ a b c, R a b → R b c → R a c) (hR0 : R w0.drew w0.drew)
    (hst : ∀ i v w w', Post i v w → R w w' → Post i v w') (hsz : (dstsOf L.toArray).all (fun d => decide (d < a0.tmps.size)) = true) (hall : RelAllG P Q L.toArray R Post a0 w0.drew St 0 L)
    (hend : ∀ (vals : Nat → Value) (w : World), R w0.drew w → (∀ i o d, L.toArray[i]? = some o → o.dst = some d → St.contains i = false → Post i (vals i) w) → wpList P L.toArray Q (St.filterMap (L.toArray[·]?)) (fillA St vals 0 L a0) w) :
    (Code.region id L.toArray true).wp P Q a0 w0 := by
  refine wp_region_any hm ?_
  refine wp_relG hok hRt hst (fun d hd => by simpa using List.all_eq_true.1 hsz d hd) hall hend _ _ _ _ ?_ ?_ (w0 := w0.drew)
  · unfold unl
    exact Nat.le_trans (List.length_filter_le _ _) (by simp)
  · have hf : ∀ i, i < L.toArray.size → (Array.replicate L.toArray.size false).getD i true = false := fun i hi => by simp at hi; simp [hi]
    have hnl : ∀ i o, L.toArray[i]? = some o → (Array.replicate L.toArray.size false).getD i true = true → False := fun i o ho h => by
      rw [hf i (Array.getElem?_eq_some_iff.1 ho).1] at h; cases h
    refine ⟨by simp, ?_, ?_, rfl, rfl, fun d _ => rfl, fun i o d ho h => (hnl i o ho h).elim, hR0⟩
    · intro j o ho h
      have hj : j < L.length := by simpa using (Array.getElem?_eq_some_iff.1 ho).1
      simp [hj] at h
    · intro s hs
      simp only [relOkG, Bool.and_eq_true] at hok
      have := List.all_eq_true.1 hok.1.1.1.1.1.1 s hs
      cases ho : L.toArray[s]? with
      | none => rw [ho] at this; cases this
      | some o => exact hf s (Array.getElem?_eq_some_iff.1 ho).1
end
end Go.Proofs.Ytimljadlfhccpaa
set_option linter.all false
namespace Go.Proofs.Ytimljadlfhccpaa
open Go.RowKit
set_option maxHeartbeats 4000000

theorem RFlat.monoK {m m' : Mp} {v : Value} {f : Flat} (hr : RFlat m v f) (h : ∀ a v, m a = some v → m' a = some v) : RFlat m' v f := ⟨RFuns.mono h hr.1, hr.2⟩
theorem tmps_of {a : Act} {d : Nat} {b : Bool} (h : a.eval (.tmp d) = .bool b) : a.tmps[d]? = some (.bool b) := by
  rw [eval_tmp] at h
  cases hc : a.tmps[d]? with
  | none => rw [hc] at h; cases h
  | some v => rw [hc] at h; rw [← h]; rfl
def fgPost (f : Flat) (vi vo : Value) : Nat → Value → World → Prop
  | 0, v, _ => v = .agg #[vo, .int .i64 f.main]
  | 1, v, _ => v = .bool (goodFlat f)
  | 2, v, _ => v = .agg #[vi, .int .i64 f.main]
  | 3, v, _ => v = .bool (goodFlat f)
  | 6, v, _ => v = .agg #[vi, .int .i64 f.main]
  | 7, v, w => ∃ vc, v = .agg #[vc, .int .i64 f.main] ∧ RFlat (fun a => w.cell? a) vc f
  | 8, v, _ => v = .int .i64 (fsize f.funs)
  | 9, v, _ => v = .agg #[vi, .int .i64 f.main]
  | 10, v, _ => v = .int .i64 (fsize f.funs)
  | 14, v, _ => v = .agg #[vo, .int .i64 f.main]
  | 15, v, _ => v = .agg #[vi, .int .i64 f.main]
  | _, v, _ => v = .bool true
theorem fgPost_stable {f : Flat} {vi vo : Value} : ∀ i v w w', fgPost f vi vo i v w → Below w.heap.size w w' → fgPost f vi vo i v w' := by
  intro i v w w' h hb
  match i, h with
  | 0, h => exact h
  | 1, h => exact h
  | 2, h => exact h
  | 3, h => exact h
  | 4, h => exact h
  | 5, h => exact h
  | 6, h => exact h
  | 7, ⟨vc, h1, h2⟩ => exact ⟨vc, h1, h2.monoK (fun a v h => (hb.cell (World.block_lt_of_cell? _ _ h)).trans h)⟩
  | 8, h => exact h
  | 9, h => exact h
  | 10, h => exact h
  | 11, h => exact h
  | 12, h => exact h
  | 13, h => exact h
  | 14, h => exact h
  | 15, h => exact h
  | 16, h => exact h
  | 17, h => exact h
  | 18, h => exact h
  | 19, h => exact h
  | 20, h => exact h
  | 21, h => exact h
  | n + 22, h => exact h
/-- What stands where the answers are asked: both programs. -/
structure FgAt (w : World) (f : Flat) (fb : Option Addr) (fcap : Nat) (vo : Value) (b3 : Nat) (W : World) : Prop where
  bel : Below w.heap.size w W
  x : BoxAt w.heap.size W [.slice fb f.funs.length fcap, .int .i64 f.main]
  y : BoxAt b3 W [vo, .int .i64 f.main]
  ri : RFlat (fun a => W.cell? a) (.slice fb f.funs.length fcap) f
  ro : RFlat (fun a => W.cell? a) vo f
theorem FgAt.later {w W W' : World} {f : Flat} {fb : Option Addr} {fcap : Nat} {vo : Value} {b3 : Nat} (h : FgAt w f fb fcap vo b3 W) (hb : Below W.heap.size W W') : FgAt w f fb fcap vo b3 W' :=
  ⟨bgo h.bel hb, h.x.later hb, h.y.later hb, h.ri.monoK (fun a v h => (hb.cell (World.block_lt_of_cell? _ _ h)).trans h), h.ro.monoK (fun a v h => (hb.cell (World.block_lt_of_cell? _ _ h)).trans h)⟩
theorem gen_wpI {P : Program} {c : Code} {Q : Exit → Act → World → Prop} {a : Act} {W : World} (F : World → Prop) (h1 : F W) (h2 : ∀ W', F W' → c.wp P Q a W') : c.wp P Q a W := h2 W h1
set_option maxRecDepth 100000 in
theorem goods_any (HG : GoodSays Try.prog 8) (HB : GoodSays Try.prog 9) (HR : RunSays Try.prog 19) {m : Mp} {v : Value} {f : Flat} (hr : RFlat m v f) (hs : FewF 2097152 f) (w : World) (hm : Ag m w) :
    Calls Try.prog 3 #[.agg #[v, .int .i64 f.main]] w fun e w' => e = .returned (.bool true) ∧ Below w.heap.size w w' := by
  have HWK := Lib.hid (fun wx : World => wakes25 HG HB HR wx)
  have HG := Lib.hid HG
  have HB := Lib.hid HB
  have HM := Lib.hid hm
  have HF := Lib.hid hr
  have HS := Lib.hid hs
  obtain ⟨fb, fcap, rfl, _⟩ := hr.1.opn
  have X0 := Lib.hid (BoxAt.new w [.slice fb f.funs.length fcap, .int .i64 f.main] 24)
  have b0 := Lib.hid (below_box w (.cells #[.slice fb f.funs.length fcap, .int .i64 f.main] 24))
  clear hr hs hm
  go_enter Try.func3, Try.ntmps3
  go_wp2_with fail
  go_at_call 5
  refine (large25 HF.out _ (HM.out.later b0.out)).mono ?_
  rintro e w1 ⟨r, rfl, hb1⟩
  have B1 := Lib.hid (bgo b0.out hb1)
  have X1 := Lib.hid (X0.out.later hb1)
  clear hb1
  have x0 := X1.out.2 0 _ rfl
  have x1 := X1.out.2 1 _ rfl
  cases r with
  | true =>
    go_wp2_with fail
    go_at_call 6
    refine (HWK.out _).mono ?_
    rintro e w2 ⟨rfl, hb2⟩
    go_wp2_with fail
    go_ret
    exact ⟨rfl, bgo B1.out hb2⟩
  | false =>
  go_wp2_with fail
  go_at_call 7
  refine (copyF HF.out HS.out _ (HM.out.later B1.out)).mono ?_
  rintro e w3 ⟨vo, rfl, hb3, hf3⟩
  have B3 := Lib.hid (bgo B1.out hb3)
  have X3 := Lib.hid (X1.out.later hb3)
  have RO := Lib.hid (hf3.monoK (fun a v h => newM_cell h))
  clear hb3 hf3 x0 x1
  obtain ⟨fb3, fc3, rfl, _⟩ := RO.out.1.opn
  go_wp2_with fail
  refine gen_wpI (FgAt w f fb fcap (.slice fb3 f.funs.length fc3) w3.heap.size) ⟨bgo B3.out (below_box _ _), X3.out.later (below_box _ _), BoxAt.new _ [.slice fb3 f.funs.length fc3, .int .i64 f.main] 24, HF.out.monoK (fun a v h => HM.out.later (bgo B3.out (below_box _ _)) a v h), RO.out.monoK (fun a v h => ((below_box w3 _).cell (World.block_lt_of_cell? _ _ h)).trans h)⟩ ?_
  intro W HWx
  have HW := Lib.hid HWx
  have hlx := HWx.x.1
  have hly := HWx.y.1
  clear HWx
  refine wp_region_relG [] (fun a b => Below a.heap.size a b) (fgPost f (.slice fb f.funs.length fcap) (.slice fb3 f.funs.length fc3)) (by kernel_rfl) (by kernel_rfl) (fun _ _ _ h k => bgo h k) (Below.refl _ _) fgPost_stable (by kernel_rfl) ?_ ?_
  · refine ⟨?_, ?_, ?_, ?_, ?_, ?_, ?_, ?_, ?_, ?_, ?_, ?_, ?_, ?_, ?_, ?_, ?_, ?_, ?_, ?_, ?_, ?_, trivial⟩
    all_goals (first | (rw [if_pos (by decide)]; trivial) | rw [if_neg (by decide)])
    · intro a wx hR hold hpre
      refine .inl ⟨by simp [Region.wanted], fun K hK => ?_⟩
      have h1 := hold 3 (by decide)
      simp [Act.eval] at h1
      have hx := HW.out.later (bgo (Below.refl _ _).drew hR)
      have y0 := hx.y.2 0 _ rfl
      have y1 := hx.y.2 1 _ rfl
      clear hold hpre hx
      go_simp
      exact hK _ _ (Below.refl _ _) rfl
    · intro a wx hR hold hpre
      refine .inl ⟨by simp [Region.wanted], fun K hK => ?_⟩
      have p0 := hpre 0 _ 9 rfl rfl (by kernel_rfl)
      simp [Act.eval, fgPost] at p0
      have hx := HW.out.later (bgo (Below.refl _ _).drew hR)
      clear hold hpre
      go_simp
      refine (HG.out _ _ f hx.ro wx (ag_self wx)).mono ?_
      rintro e wy ⟨rfl, hb⟩
      exact hK _ _ hb rfl
    · intro a wx hR hold hpre
      refine .inl ⟨by simp [Region.wanted], fun K hK => ?_⟩
      have h1 := hold 1 (by decide)
      simp [Act.eval] at h1
      have hx := HW.out.later (bgo (Below.refl _ _).drew hR)
      have y0 := hx.x.2 0 _ rfl
      have y1 := hx.x.2 1 _ rfl
      clear hold hpre hx
      go_simp
      exact hK _ _ (Below.refl _ _) rfl
    · intro a wx hR hold hpre
      refine .inl ⟨by simp [Region.wanted], fun K hK => ?_⟩
      have p2 := hpre 2 _ 11 rfl rfl (by kernel_rfl)
      simp [Act.eval, fgPost] at p2
      have hx := HW.out.later (bgo (Below.refl _ _).drew hR)
      clear hold hpre
      go_simp
      refine (HB.out _ _ f hx.ri wx (ag_self wx)).mono ?_
      rintro e wy ⟨rfl, hb⟩
      exact hK _ _ hb rfl
    · intro a wx hR hold hpre
      refine .inl ⟨by simp [Region.wanted], fun K hK => ?_⟩
      have p1 := hpre 1 _ 10 rfl rfl (by kernel_rfl)
      have p3 := hpre 3 _ 12 rfl rfl (by kernel_rfl)
      simp [Act.eval, fgPost] at p1 p3
      clear hold hpre
      go_simp
      exact hK _ _ (Below.refl _ _) (by simp [fgPost])
    · intro a wx hR hold hpre
      refine .inl ⟨by simp [Region.wanted], fun K hK => ?_⟩
      have p4 := hpre 4 _ 13 rfl rfl (by kernel_rfl)
      simp [Act.eval, fgPost] at p4
      clear hold hpre
      go_simp
      exact hK _ _ (Below.refl _ _) (by simp [fgPost])
    · intro a wx hR hold hpre
      have hg := hpre 5 _ 14 rfl rfl (by kernel_rfl)
      simp only [fgPost] at hg
      have hg := tmps_of hg
      refine .inl ⟨by simp [Region.wanted, yielded, hg], fun K hK => ?_⟩
      clear hg
      have h1 := hold 1 (by decide)
      simp [Act.eval] at h1
      have hx := HW.out.later (bgo (Below.refl _ _).drew hR)
      have y0 := hx.x.2 0 _ rfl
      have y1 := hx.x.2 1 _ rfl
      clear hold hpre hx
      go_simp
      exact hK _ _ (Below.refl _ _) rfl
    · intro a wx hR hold hpre
      have hg := hpre 5 _ 14 rfl rfl (by kernel_rfl)
      simp only [fgPost] at hg
      have hg := tmps_of hg
      refine .inl ⟨by simp [Region.wanted, yielded, hg], fun K hK => ?_⟩
      clear hg
      have p6 := hpre 6 _ 15 rfl rfl (by kernel_rfl)
      simp [Act.eval, fgPost] at p6
      have hx := HW.out.later (bgo (Below.refl _ _).drew hR)
      clear hold hpre
      go_simp
      refine (copyF hx.ri HS.out wx (ag_self wx)).mono ?_
      rintro e wy ⟨vc, rfl, hb, hf⟩
      exact hK _ _ hb ⟨vc, rfl, hf.monoK (fun _ _ h => newM_cell h)⟩
    · intro a wx hR hold hpre
      have hg := hpre 5 _ 14 rfl rfl (by kernel_rfl)
      simp only [fgPost] at hg
      have hg := tmps_of hg
      refine .inl ⟨by simp [Region.wanted, yielded, hg], fun K hK => ?_⟩
      clear hg
      obtain ⟨vc, p7, hvc⟩ := hpre 7 _ 16 rfl rfl (by kernel_rfl)
      simp [Act.eval] at p7
      clear hold hpre
      go_simp
      refine (flSize hvc wx (ag_self wx)).mono ?_
      rintro e wy ⟨rfl, hb⟩
      exact hK _ _ hb rfl
    · intro a wx hR hold hpre
      have hg := hpre 5 _ 14 rfl rfl (by kernel_rfl)
      simp only [fgPost] at hg
      have hg := tmps_of hg
      refine .inl ⟨by simp [Region.wanted, yielded, hg], fun K hK => ?_⟩
      clear hg
      have h1 := hold 1 (by decide)
      simp [Act.eval] at h1
      have hx := HW.out.later (bgo (Below.refl _ _).drew hR)
      have y0 := hx.x.2 0 _ rfl
      have y1 := hx.x.2 1 _ rfl
      clear hold hpre hx
      go_simp
      exact hK _ _ (Below.refl _ _) rfl
    · intro a wx hR hold hpre
      have hg := hpre 5 _ 14 rfl rfl (by kernel_rfl)
      simp only [fgPost] at hg
      have hg := tmps_of hg
      refine .inl ⟨by simp [Region.wanted, yielded, hg], fun K hK => ?_⟩
      clear hg
      have p9 := hpre 9 _ 18 rfl rfl (by kernel_rfl)
      simp [Act.eval, fgPost] at p9
      have hx := HW.out.later (bgo (Below.refl _ _).drew hR)
      clear hold hpre
      go_simp
      refine (r25Size hx.ri wx (ag_self wx)).mono ?_
      rintro e wy ⟨rfl, hb⟩
      exact hK _ _ hb rfl
    · intro a wx hR hold hpre
      have hg := hpre 5 _ 14 rfl rfl (by kernel_rfl)
      simp only [fgPost] at hg
      have hg := tmps_of hg
      refine .inl ⟨by simp [Region.wanted, yielded, hg], fun K hK => ?_⟩
      clear hg
      have p8 := hpre 8 _ 17 rfl rfl (by kernel_rfl)
      have p10 := hpre 10 _ 19 rfl rfl (by kernel_rfl)
      simp [Act.eval, fgPost] at p8 p10
      clear hold hpre
      go_simp
      exact hK _ _ (Below.refl _ _) (by simp [fgPost])
    · intro a wx hR hold hpre
      refine .inl ⟨by simp [Region.wanted], fun K hK => ?_⟩
      have p5 := hpre 5 _ 14 rfl rfl (by kernel_rfl)
      have p11 := hpre 11 _ 20 rfl rfl (by kernel_rfl)
      simp [Act.eval, fgPost] at p5 p11
      clear hold hpre
      go_simp
      exact hK _ _ (Below.refl _ _) (by simp [fgPost])
    · intro a wx hR hold hpre
      refine .inl ⟨by simp [Region.wanted], fun K hK => ?_⟩
      have p12 := hpre 12 _ 21 rfl rfl (by kernel_rfl)
      simp [Act.eval, fgPost] at p12
      clear hold hpre
      go_simp
      exact hK _ _ (Below.refl _ _) (by simp [fgPost])
    · intro a wx hR hold hpre
      have hg := hpre 13 _ 22 rfl rfl (by kernel_rfl)
      simp only [fgPost] at hg
      have hg := tmps_of hg
      refine .inl ⟨by simp [Region.wanted, yielded, hg], fun K hK => ?_⟩
      clear hg
      have h1 := hold 3 (by decide)
      simp [Act.eval] at h1
      have hx := HW.out.later (bgo (Below.refl _ _).drew hR)
      have y0 := hx.y.2 0 _ rfl
      have y1 := hx.y.2 1 _ rfl
      clear hold hpre hx
      go_simp
      exact hK _ _ (Below.refl _ _) rfl
    · intro a wx hR hold hpre
      have hg := hpre 13 _ 22 rfl rfl (by kernel_rfl)
      simp only [fgPost] at hg
      have hg := tmps_of hg
      refine .inl ⟨by simp [Region.wanted, yielded, hg], fun K hK => ?_⟩
      clear hg
      have h1 := hold 1 (by decide)
      simp [Act.eval] at h1
      have hx := HW.out.later (bgo (Below.refl _ _).drew hR)
      have y0 := hx.x.2 0 _ rfl
      have y1 := hx.x.2 1 _ rfl
      clear hold hpre hx
      go_simp
      exact hK _ _ (Below.refl _ _) rfl
    · intro a wx hR hold hpre
      have hg := hpre 13 _ 22 rfl rfl (by kernel_rfl)
      simp only [fgPost] at hg
      have hg := tmps_of hg
      refine .inl ⟨by simp [Region.wanted, yielded, hg], fun K hK => ?_⟩
      clear hg
      have p14 := hpre 14 _ 23 rfl rfl (by kernel_rfl)
      have p15 := hpre 15 _ 24 rfl rfl (by kernel_rfl)
      simp [Act.eval, fgPost] at p14 p15
      have hx := HW.out.later (bgo (Below.refl _ _).drew hR)
      clear hold hpre
      go_simp
      refine (same25 hx.ro hx.ri wx (ag_self wx)).mono ?_
      rintro e wy ⟨rfl, hb⟩
      exact hK _ _ hb rfl
    · intro a wx hR hold hpre
      refine .inl ⟨by simp [Region.wanted], fun K hK => ?_⟩
      have p13 := hpre 13 _ 22 rfl rfl (by kernel_rfl)
      have p16 := hpre 16 _ 25 rfl rfl (by kernel_rfl)
      simp [Act.eval, fgPost] at p13 p16
      clear hold hpre
      go_simp
      exact hK _ _ (Below.refl _ _) (by simp [fgPost])
    · intro a wx hR hold hpre
      refine .inl ⟨by simp [Region.wanted], fun K hK => ?_⟩
      have p17 := hpre 17 _ 26 rfl rfl (by kernel_rfl)
      simp [Act.eval, fgPost] at p17
      clear hold hpre
      go_simp
      exact hK _ _ (Below.refl _ _) (by simp [fgPost])
    · intro a wx hR hold hpre
      have hg := hpre 18 _ 27 rfl rfl (by kernel_rfl)
      simp only [fgPost] at hg
      have hg := tmps_of hg
      refine .inl ⟨by simp [Region.wanted, yielded, hg], fun K hK => ?_⟩
      clear hg
      clear hold hpre
      go_simp
      refine (HWK.out wx).mono ?_
      rintro e wy ⟨rfl, hb⟩
      exact hK _ _ hb rfl
    · intro a wx hR hold hpre
      refine .inl ⟨by simp [Region.wanted], fun K hK => ?_⟩
      have p18 := hpre 18 _ 27 rfl rfl (by kernel_rfl)
      have p19 := hpre 19 _ 28 rfl rfl (by kernel_rfl)
      simp [Act.eval, fgPost] at p18 p19
      clear hold hpre
      go_simp
      exact hK _ _ (Below.refl _ _) (by simp [fgPost])
    · intro a wx hR hold hpre
      refine .inl ⟨by simp [Region.wanted], fun K hK => ?_⟩
      have p20 := hpre 20 _ 29 rfl rfl (by kernel_rfl)
      simp [Act.eval, fgPost] at p20
      clear hold hpre
      go_simp
      exact hK _ _ (Below.refl _ _) (by simp [fgPost])
  · intro vals w9 hR hv
    have e21 : vals 21 = .bool true := hv 21 _ 2 rfl rfl (by kernel_rfl)
    simp only [fillA, List.contains_nil, Nat.reduceAdd, Bool.false_eq_true, if_false, Act.put, List.setIfInBounds_toArray, List.set_cons_zero, List.set_cons_succ, e21]
    simp only [List.filterMap_nil]
    clear hv
    go_wp2_with fail
    go_ret
    exact ⟨rfl, bgo HW.out.bel (bgo (Below.refl _ _).drew hR)⟩
end Go.Proofs.Ytimljadlfhccpaa
