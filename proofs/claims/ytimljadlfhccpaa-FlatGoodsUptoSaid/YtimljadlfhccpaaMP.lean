/- Which flat programs may be: as plain functions. And what is known of the program's looker. The looker binds variables; it looks at atoms. -/
import Derived.Test.YtimljadlfhccpaaMB
import Derived.Test.YtimljadlfhccpaaProg
set_option linter.all false
set_option linter.all false
set_option linter.all false
set_option linter.all false
namespace Go.Proofs.Ytimljadlfhccpaa
open Go.RowKit

def atomOk (A : List Int) (a : Atm) : Bool := if a.var then A.contains a.n else inB a.n
/-- May a variable be bound that is not yet met? -/
def mayBind (met : List Int) (x : Int) : Bool := !met.contains x && decide (0 ≤ x) && decide (x ≤ 262144)
def bindL : List Int → List Int → List Int → Option (List Int × List Int)
  | [], met, A => some (met, A)
  | x :: r, met, A => if mayBind met x then bindL r (x :: met) (x :: A) else none
mutual
def goodT (nf : Nat) (main : Int) : Term → List Int → List Int → Option (List Int)
  | .mk k x n i tg a fs next, met, A =>
    if formedB nf main (.mk k x n i tg a fs next) && a.all (atomOk A) then
      if bindsB k then (if mayBind met x then goodTs nf main next (x :: met) (x :: A) else none) else goodTs nf main next met A
    else none
def goodTs (nf : Nat) (main : Int) : List Term → List Int → List Int → Option (List Int)
  | [], met, _ => some met
  | t :: r, met, A => match goodT nf main t met A with
    | none => none
    | some met' => goodTs nf main r met' A
end
theorem goodT_eq (nf main t met A) : goodT nf main t met A = if formedB nf main t && t.args.all (atomOk A) then
      if bindsB t.kind then (if mayBind met t.x then goodTs nf main t.next (t.x :: met) (t.x :: A) else none) else goodTs nf main t.next met A
    else none := by cases t; rw [goodT]; rfl
def goodFun (nf : Nat) (main : Int) (i : Nat) (f : Int × List Int × Term) : Bool :=
  decide (f.1 = i) && decide (1 ≤ f.2.1.length) && decide (f.2.1.length ≤ 17) && (!decide ((i : Int) = main) || decide (f.2.1.length = 1)) &&
    match bindL f.2.1 [] [] with
    | none => false
    | some (met, A) => (goodT nf main f.2.2 met A).isSome
def goodFuns (nf : Nat) (main : Int) : Nat → List (Int × List Int × Term) → Bool
  | _, [] => true
  | i, f :: r => goodFun nf main i f && goodFuns nf main (i + 1) r
def goodFlat (f : Flat) : Bool := decide (1 ≤ f.funs.length) && decide (f.funs.length ≤ 4096) && decide (fsize f.funs ≤ 65536) && decide (0 ≤ f.main) && decide (f.main < f.funs.length) && goodFuns f.funs.length f.main 0 f.funs

/-- All blocks but those of S are as they were. -/
structure Kept (S : List Nat) (w w' : World) : Prop where
  os : w'.os = w.os
  tape : w'.tape = w.tape
  output : w'.output = w.output
  size : w.heap.size ≤ w'.heap.size
  block : ∀ k, k < w.heap.size → k ∉ S → w'.heap[k]? = w.heap[k]?
theorem Kept.refl (S) (w : World) : Kept S w w := ⟨rfl, rfl, rfl, Nat.le_refl _, fun _ _ _ => rfl⟩
theorem Kept.trans {S} {a b c : World} (h : Kept S a b) (k : Kept S b c) : Kept S a c :=
  ⟨k.os.trans h.os, k.tape.trans h.tape, k.output.trans h.output, Nat.le_trans h.size k.size, fun i hi hs => (k.block i (Nat.lt_of_lt_of_le hi h.size) hs).trans (h.block i hi hs)⟩
theorem Kept.below {S} {a b : World} (h : Below a.heap.size a b) : Kept S a b := ⟨h.os, h.tape, h.output, h.size, fun k hk _ => h.block k hk⟩
theorem Kept.grown {S} {a b : World} {r : Nat} (h : a.grownBy b (some r)) (hr : r ∈ S) : Kept S a b :=
  ⟨h.os, h.tape, h.output, h.size, fun k hk hs => h.block k hk (fun e => by injection e with e; subst e; exact hs hr)⟩
theorem Kept.cell {S} {a b : World} (h : Kept S a b) {p : Addr} {v : Value} (hc : a.cell? p = some v) (hs : p.block ∉ S) : b.cell? p = some v :=
  (World.cell?_of_block (h.block p.block (World.block_lt_of_cell? a p hc) hs)).trans hc
theorem Kept.drew {S} {a b : World} (h : Kept S a b) : Kept S a b.drew := ⟨h.os, h.tape, h.output, h.size, h.block⟩
theorem Kept.drewN {S} {a b : World} (h : Kept S a b) (n : Nat) : Kept S a (b.drewN n) := ⟨h.os, h.tape, h.output, h.size, h.block⟩
theorem Kept.toBelow {S} {B : Nat} {a b : World} (h : Kept S a b) (hB : B ≤ a.heap.size) (hS : ∀ k ∈ S, B ≤ k) : Below B a b :=
  ⟨h.os, h.tape, h.output, h.size, fun k hk => h.block k (by omega) (fun hm => by have := hS k hm; omega)⟩
theorem Ag.kept {m : Mp} {S} {w w' : World} (hm : Ag m w) (h : Kept S w w') (hS : ∀ k ∈ S, ∀ c t f, w.heap[k]? ≠ some (.cells c t f)) : Ag m w' := by
  intro a v ha
  have h1 := hm a v ha
  refine h.cell h1 (fun hk => ?_)
  unfold World.cell? at h1
  split at h1
  · rename_i hh; exact hS _ hk _ _ _ hh
  · cases h1
theorem IMap.noCells {w : World} {b es} (h : IMap w b es) : ∀ c t f, w.heap[b]? ≠ some (.cells c t f) := by
  obtain ⟨ents, c, hb, _⟩ := h
  intro c' t f e
  rw [hb] at e; cases e
def MetM (es : List (Int × Value)) (met : List Int) : Prop := ∀ x, assoc es x = if met.contains x then some (.int .i64 1) else none
def ArdM (es : List (Int × Value)) (A : List Int) : Prop := ∀ x, (assoc es x).getD (.int .i64 0) = .int .i64 (if A.contains x then 1 else 0)
/-- The looker in block kb: the program, the two maps. -/
structure Lk (kb mb ab : Nat) (Fb : Option Addr) (nf Fc : Nat) (main : Int) (w : World) (met A : List Int) : Prop where
  c0 : w.cell? ⟨kb, 0, none⟩ = some (.slice Fb nf Fc)
  c1 : w.cell? ⟨kb, 1, none⟩ = some (.int .i64 main)
  c2 : w.cell? ⟨kb, 2, none⟩ = some (.map (some mb))
  c3 : w.cell? ⟨kb, 3, none⟩ = some (.map (some ab))
  ne : mb ≠ ab
  sub : ∀ x ∈ A, x ∈ met
  mets : ∃ es, IMap w mb es ∧ MetM es met
  ards : ∃ es, IMap w ab es ∧ ArdM es A
section
variable {kb mb ab : Nat} {Fb : Option Addr} {nf Fc : Nat} {main : Int} {w : World} {met A : List Int}
theorem Lk.lt (h : Lk kb mb ab Fb nf Fc main w met A) : kb < w.heap.size := World.block_lt_of_cell? w ⟨kb, 0, none⟩ h.c0
theorem Lk.ltm (h : Lk kb mb ab Fb nf Fc main w met A) : mb < w.heap.size := by obtain ⟨es, h1, _⟩ := h.mets; exact h1.lt
theorem Lk.lta (h : Lk kb mb ab Fb nf Fc main w met A) : ab < w.heap.size := by obtain ⟨es, h1, _⟩ := h.ards; exact h1.lt
theorem Lk.later (h : Lk kb mb ab Fb nf Fc main w met A) {w' : World} (hb : Below w.heap.size w w') : Lk kb mb ab Fb nf Fc main w' met A := by
  obtain ⟨es, h1, h2⟩ := h.mets
  obtain ⟨es', h1', h2'⟩ := h.ards
  exact ⟨(hb.cell h.lt).trans h.c0, (hb.cell h.lt).trans h.c1, (hb.cell h.lt).trans h.c2, (hb.cell h.lt).trans h.c3, h.ne, h.sub, ⟨es, h1.below hb, h2⟩, ⟨es', h1'.below hb, h2'⟩⟩
theorem Lk.cells (h : Lk kb mb ab Fb nf Fc main w met A) : ∀ k ∈ [mb, ab], ∀ c t f, w.heap[k]? ≠ some (.cells c t f) := by
  obtain ⟨es, h1, h2⟩ := h.mets
  obtain ⟨es', h1', h2'⟩ := h.ards
  intro k hk
  simp at hk
  rcases hk with rfl | rfl
  · exact h1.noCells
  · exact h1'.noCells
theorem Lk.kbm (h : Lk kb mb ab Fb nf Fc main w met A) : kb ≠ mb ∧ kb ≠ ab := by
  have hc := h.c0
  unfold World.cell? at hc
  split at hc
  · rename_i hh
    exact ⟨fun e => h.cells mb (by simp) _ _ _ (e ▸ hh), fun e => h.cells ab (by simp) _ _ _ (e ▸ hh)⟩
  · cases hc
theorem MetM.put {es : List (Int × Value)} {x : Int} (h : MetM es met) : MetM (putA es x (.int .i64 1)) (x :: met) := by
  intro y
  rw [assoc_put, h y]
  by_cases e : y = x
  · subst e; simp
  · simp [e]
theorem ArdM.put {es : List (Int × Value)} {x : Int} (h : ArdM es A) : ArdM (putA es x (.int .i64 1)) (x :: A) := by
  intro y
  rw [assoc_put]
  by_cases e : y = x
  · subst e; simp
  · rw [if_neg e, h y]; simp [e]
theorem ArdM.del {es : List (Int × Value)} {x : Int} (h : ArdM es (x :: A)) (hx : x ∉ A) : ArdM (putA es x (.int .i64 0)) A := by
  intro y
  rw [assoc_put]
  by_cases e : y = x
  · subst e; simp [hx]
  · rw [if_neg e, h y]; simp [e]
end
end Go.Proofs.Ytimljadlfhccpaa
namespace Go.Proofs.Ytimljadlfhccpaa
open Go.RowKit
set_option maxHeartbeats 1000000

theorem mayBind_of {met : List Int} {x : Int} (h1 : met.contains x = false) (h2 : 0 ≤ x) (h3 : x ≤ 262144) : mayBind met x = true := by
  simp only [mayBind, h1, Bool.not_false, Bool.true_and, Bool.and_eq_true, decide_eq_true_eq]; exact ⟨h2, h3⟩
theorem mayBind_not {met : List Int} {x : Int} (h : met.contains x = true ∨ x < 0 ∨ 262144 < x) : mayBind met x = false := by
  rw [← Bool.not_eq_true]
  simp only [mayBind, Bool.and_eq_true, decide_eq_true_eq, Bool.not_eq_true']
  rintro ⟨⟨h1, h2⟩, h3⟩
  rcases h with h | h | h
  · rw [h] at h1; cases h1
  · omega
  · omega
theorem bindL_step {l : List Int} {j : Nat} (hj : j < l.length) (met A : List Int) : bindL (l.drop j) met A = if mayBind met l[j] then bindL (l.drop (j + 1)) (l[j] :: met) (l[j] :: A) else none := by
  rw [List.drop_eq_getElem_cons hj, bindL]
/-- What binding variables leaves. -/
def BindPost (kb mb ab : Nat) (Fb : Option Addr) (nf Fc : Nat) (main : Int) (w : World) (r : Option (List Int × List Int)) (e : Ending) (w' : World) : Prop :=
  e = .returned (.bool r.isSome) ∧ Kept [mb, ab] w w' ∧ ∀ p, r = some p → Lk kb mb ab Fb nf Fc main w' p.1 p.2
set_option maxRecDepth 100000 in
theorem binds_any {m : Mp} {lb : Option Addr} {lcap : Nat} {l : List Int} (hl : RInts m (.slice lb l.length lcap) l) {kb mb ab : Nat} {Fb : Option Addr} {nf Fc : Nat} {main : Int} {w : World} {met A : List Int}
    (hm : Ag m w) (hk : Lk kb mb ab Fb nf Fc main w met A) :
    Calls Try.prog 21 #[.pointer (some ⟨kb, 0, none⟩), .slice lb l.length lcap] w (BindPost kb mb ab Fb nf Fc main w (bindL l met A)) := by
  have HM := Lib.hid hm
  have HK := Lib.hid hk
  have HL := Lib.hid hl
  have l2 := hl.len
  clear hm hk hl
  go_enter Try.func21, Try.ntmps21
  go_wp2_with fail
  go_loopg [9] (l.length) (fun g i wr => ∃ (j : Nat) (met' A' : List Int), j + g = l.length ∧ i = .int .i64 j ∧ Hid (bindL l met A = bindL (l.drop j) met' A') ∧ Hid (Lk kb mb ab Fb nf Fc main wr met' A') ∧ Hid (Kept [mb, ab] w wr))
  case atStart => exact ⟨0, met, A, by omega, rfl, Lib.hid rfl, HK, Lib.hid (Kept.refl _ _)⟩
  case round =>
    obtain ⟨j, met', A', hj, rfl, hs, hK, hkept⟩ := hrel
    by_cases hlt : j < l.length
    · have hm : Ag m wr := HM.out.kept hkept.out HK.out.cells
      obtain ⟨b, o, rfl, ea⟩ := RInts.at HL.out hm j hlt
      have HM' := Lib.hid hm; clear hm
      obtain ⟨c0, c1, c2, c3, ne, sub, ⟨esm, Im, Mm⟩, ⟨esa, Ia, Ma⟩⟩ := hK.out
      obtain ⟨k1, k2⟩ := hK.out.kbm
      have st := Lib.hid (bindL_step hlt met' A')
      have hmx := Mm l[j]
      have MM := Lib.hid Mm; clear Mm
      have MA := Lib.hid Ma
      cases hin : met'.contains l[j] with
      | true =>
        rw [hin, if_pos rfl] at hmx
        have hb2 : assoc (putA esm l[j] (.int .i64 2)) l[j] = some (.int .i64 2) := by rw [assoc_put, if_pos rfl]
        have HD : Hid (bindL l met A = none) := Lib.hid (by rw [hs.out, st.out, mayBind_not (Or.inl hin)]; rfl)
        clear hin
        go_wp2_with (first | (at_lookup; refine wpList_lookup_I rfl _ _ _ _ _ _ rfl Try.underlying53 Try.underlying3 zero_int rfl _ rfl (by assumption) ?_) | (at_mapUpdate; refine wpList_mapUpdate_I (b := mb) rfl _ _ _ _ _ _ rfl Try.underlying53 Try.underlying3 rfl _ rfl (by assumption) ?_; intro w1 hI1 hg1 hz1; have d0 := hg1.cell c0 (by simp [k1]); have d1 := hg1.cell c1 (by simp [k1]); have d2 := hg1.cell c2 (by simp [k1]); have d3 := hg1.cell c3 (by simp [k1]); have Ia1 := Ia.same (hg1.block ab Ia.lt (by simp [ne.symm])); clear Im) | (at_mapUpdate; refine wpList_mapUpdate_I (b := ab) rfl _ _ _ _ _ _ rfl Try.underlying53 Try.underlying3 rfl _ rfl (by assumption) ?_; intro w2 hI2 hg2 hz2))
        go_ret
        exact ⟨by rw [HD.out]; rfl, hkept.out.trans (Kept.grown hg1 (by simp)), fun p hp => by rw [HD.out] at hp; cases hp⟩
      | false =>
        rw [hin, if_neg (by simp)] at hmx
        have hb1 : assoc (putA esm l[j] (.int .i64 1)) l[j] = some (.int .i64 1) := by rw [assoc_put, if_pos rfl]
        have hnA : A'.contains l[j] = false := by rw [← Bool.not_eq_true]; intro h; have := sub _ (List.contains_iff_mem.1 h); rw [← List.contains_iff_mem, hin] at this; cases this
        have hax := Ma l[j]
        rw [hnA, if_neg (by simp)] at hax
        clear Ma hnA
        have Hin := Lib.hid hin; clear hin
        by_cases h0 : 0 ≤ l[j]
        · by_cases h1 : l[j] ≤ 262144
          · have HD : Hid (bindL l met A = bindL (l.drop (j + 1)) (l[j] :: met') (l[j] :: A')) := Lib.hid (by rw [hs.out, st.out, mayBind_of Hin.out h0 h1]; rfl)
            go_wp2_with (first | (at_lookup; refine wpList_lookup_I rfl _ _ _ _ _ _ rfl Try.underlying53 Try.underlying3 zero_int rfl _ rfl (by assumption) ?_) | (at_mapUpdate; refine wpList_mapUpdate_I (b := mb) rfl _ _ _ _ _ _ rfl Try.underlying53 Try.underlying3 rfl _ rfl (by assumption) ?_; intro w1 hI1 hg1 hz1; have d0 := hg1.cell c0 (by simp [k1]); have d1 := hg1.cell c1 (by simp [k1]); have d2 := hg1.cell c2 (by simp [k1]); have d3 := hg1.cell c3 (by simp [k1]); have Ia1 := Ia.same (hg1.block ab Ia.lt (by simp [ne.symm])); clear Im) | (at_mapUpdate; refine wpList_mapUpdate_I (b := ab) rfl _ _ _ _ _ _ rfl Try.underlying53 Try.underlying3 rfl _ rfl (by assumption) ?_; intro w2 hI2 hg2 hz2))
            go_roundg (l.length - (j + 1))
            case measure => omega
            case rel =>
              have hkp : Kept [mb, ab] wr w2 := (Kept.grown hg1 (by simp)).trans (Kept.grown hg2 (by simp))
              refine ⟨j + 1, l[j] :: met', l[j] :: A', by omega, by go_num, HD, ⟨hkp.cell c0 (by simp [k1, k2]), hkp.cell c1 (by simp [k1, k2]), hkp.cell c2 (by simp [k1, k2]), hkp.cell c3 (by simp [k1, k2]), ne, ?_, ⟨_, hI1.same (hg2.block mb hI1.lt (by simp [ne])), MM.out.put⟩, ⟨_, hI2, MA.out.put⟩⟩, hkept.out.trans hkp⟩
              intro x hx
              rcases List.mem_cons.1 hx with rfl | hx
              · exact List.mem_cons_self
              · exact List.mem_cons_of_mem _ (sub x hx)
          · have HD : Hid (bindL l met A = none) := Lib.hid (by rw [hs.out, st.out, mayBind_not (Or.inr (Or.inr (by omega)))]; rfl)
            go_wp2_with (first | (at_lookup; refine wpList_lookup_I rfl _ _ _ _ _ _ rfl Try.underlying53 Try.underlying3 zero_int rfl _ rfl (by assumption) ?_) | (at_mapUpdate; refine wpList_mapUpdate_I (b := mb) rfl _ _ _ _ _ _ rfl Try.underlying53 Try.underlying3 rfl _ rfl (by assumption) ?_; intro w1 hI1 hg1 hz1; have d0 := hg1.cell c0 (by simp [k1]); have d1 := hg1.cell c1 (by simp [k1]); have d2 := hg1.cell c2 (by simp [k1]); have d3 := hg1.cell c3 (by simp [k1]); have Ia1 := Ia.same (hg1.block ab Ia.lt (by simp [ne.symm])); clear Im) | (at_mapUpdate; refine wpList_mapUpdate_I (b := ab) rfl _ _ _ _ _ _ rfl Try.underlying53 Try.underlying3 rfl _ rfl (by assumption) ?_; intro w2 hI2 hg2 hz2))
            go_ret
            exact ⟨by rw [HD.out]; rfl, hkept.out.trans (Kept.grown hg1 (by simp)), fun p hp => by rw [HD.out] at hp; cases hp⟩
        · have HD : Hid (bindL l met A = none) := Lib.hid (by rw [hs.out, st.out, mayBind_not (Or.inr (Or.inl (by omega)))]; rfl)
          go_wp2_with (first | (at_lookup; refine wpList_lookup_I rfl _ _ _ _ _ _ rfl Try.underlying53 Try.underlying3 zero_int rfl _ rfl (by assumption) ?_) | (at_mapUpdate; refine wpList_mapUpdate_I (b := mb) rfl _ _ _ _ _ _ rfl Try.underlying53 Try.underlying3 rfl _ rfl (by assumption) ?_; intro w1 hI1 hg1 hz1; have d0 := hg1.cell c0 (by simp [k1]); have d1 := hg1.cell c1 (by simp [k1]); have d2 := hg1.cell c2 (by simp [k1]); have d3 := hg1.cell c3 (by simp [k1]); have Ia1 := Ia.same (hg1.block ab Ia.lt (by simp [ne.symm])); clear Im) | (at_mapUpdate; refine wpList_mapUpdate_I (b := ab) rfl _ _ _ _ _ _ rfl Try.underlying53 Try.underlying3 rfl _ rfl (by assumption) ?_; intro w2 hI2 hg2 hz2))
          go_ret
          exact ⟨by rw [HD.out]; rfl, hkept.out.trans (Kept.grown hg1 (by simp)), fun p hp => by rw [HD.out] at hp; cases hp⟩
    · have hd : bindL l met A = some (met', A') := by rw [hs.out, List.drop_eq_nil_of_le (by omega), bindL]
      have HD := Lib.hid hd
      go_wp2_with fail
      go_ret
      exact ⟨by rw [HD.out]; rfl, hkept.out, fun p hp => by rw [HD.out] at hp; injection hp with hp; subst hp; exact hK.out⟩
end Go.Proofs.Ytimljadlfhccpaa
