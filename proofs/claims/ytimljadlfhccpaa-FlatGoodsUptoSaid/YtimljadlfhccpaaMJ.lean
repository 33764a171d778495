/- What a flat program is run to: as plain functions. And how values lie in memory. No program in sight. What holds at each term of a good flat program that the machine comes to: as plain facts. No program in sight. -/
import Derived.Test.YtimljadlfhccpaaMP
import Derived.Test.YtimljadlfhccpaaMA
set_option linter.all false
set_option linter.all false
set_option linter.all false
set_option linter.all false
namespace Go.Proofs.Ytimljadlfhccpaa
open Go.RowKit

inductive Val where
  | mk (kind n : Int) (args : List Val)
namespace Val
def kind : Val → Int | mk k _ _ => k
def n : Val → Int | mk _ n _ => n
def args : Val → List Val | mk _ _ a => a
end Val
def nov : Val := .mk 0 0 []
abbrev Env := Int → Option Val
def upd (e : Env) (x : Int) (v : Val) : Env := fun y => if y = x then some v else e y
def atm0 : Atm := ⟨false, 0⟩
def atomV (e : Env) (a : Atm) : Val := if a.var then (e a.n).getD nov else .mk 1 a.n []
structure St where
  made : Nat
  work : Nat
  writes : List Int
inductive SOut where
  | next (j : Nat) (e : Env) (s : St)
  | call (l : List Val) (s : St)
  | stop (stuck : Bool) (e : Int) (shows : List Int) (s : St)
mutual
/-- What is shown of a value, behind l; or how it ends. -/
def showV : Val → List Int → (Bool × Int) ⊕ List Int
  | .mk k n args, l => if k = 3 then .inl (true, 0) else if l.length = 4096 then .inl (false, 4) else showVs args (l ++ [n])
def showVs : List Val → List Int → (Bool × Int) ⊕ List Int
  | [], l => .inr l
  | v :: r, l => match showV v l with
    | .inl e => .inl e
    | .inr l' => showVs r l'
end
theorem showV_eq (v : Val) (l : List Int) : showV v l = if v.kind = 3 then .inl (true, 0) else if l.length = 4096 then .inl (false, 4) else showVs v.args (l ++ [v.n]) := by cases v; rw [showV]; rfl
def idxOf (l : List Int) (n : Int) : Nat := if idx l n < 0 then l.length else (idx l n).toNat
def primV (op r : Int) : Val := .mk (if op = 6 ∨ op = 7 then 2 else 1) r []
def worked (s : St) : St := { s with work := s.work + 1 }
/-- One term. -/
def stepT (t : Term) (e : Env) (s : St) : SOut :=
  let v := atomV e (t.args.getD 0 atm0)
  if t.kind = 5 then .call (t.args.map (atomV e)) s else
  if t.kind = 1 then
    let q := atomV e (t.args.getD 1 atm0)
    if v.kind = 1 ∧ q.kind = 1 then
      match doOp t.n v.n q.n with
      | none => .stop false 2 [] s
      | some r => .next 0 (upd e t.x (primV t.n r)) s
    else .stop true 0 [] s
  else
  if t.kind = 2 then .next 0 (upd e t.x (.mk 2 t.n (t.args.map (atomV e)))) { s with made := s.made + (t.args.length + 1) } else
  if t.kind = 9 then .next 0 (upd e t.x (.mk 3 t.n (t.args.map (atomV e)))) { s with made := s.made + (t.args.length + 1) } else
  if t.kind = 3 then (if v.kind = 2 ∧ t.n < v.args.length then .next 0 (upd e t.x (v.args.getD t.n.toNat nov)) s else .stop true 0 [] s) else
  if t.kind = 10 then (if v.kind = 3 ∧ t.n < v.args.length then .next 0 (upd e t.x (v.args.getD t.n.toNat nov)) s else .stop true 0 [] s) else
  if t.kind = 6 then (if (t.ints = true ∧ v.kind = 1) ∨ (t.ints = false ∧ v.kind = 2) then (if idxOf t.tags v.n < t.next.length then .next (idxOf t.tags v.n) e s else .stop true 0 [] s) else .stop true 0 [] s) else
  if t.kind = 7 then (if v.kind = 1 then (if s.writes.length = 4096 then .stop false 4 [] s else .next 0 e { s with writes := s.writes ++ [v.n] }) else .stop true 0 [] s) else
  match showV v [] with
  | .inl (st, en) => .stop st en [] s
  | .inr l => .stop false 1 l s
inductive BOut where
  | call (l : List Val) (s : St)
  | stop (stuck : Bool) (e : Int) (shows : List Int) (s : St)
mutual
/-- A function's body: the call that it ends with, or how it ends. -/
def bodyT : Term → Env → St → BOut
  | .mk k x n i tg a fs next, e, s => match stepT (.mk k x n i tg a fs next) e (worked s) with
    | .next j e' s' => bodyTs next j e' s'
    | .call l s' => .call l s'
    | .stop st en sh s' => .stop st en sh s'
def bodyTs : List Term → Nat → Env → St → BOut
  | [], _, _, s => .stop true 0 [] s
  | t :: _, 0, e, s => bodyT t e s
  | _ :: r, j + 1, e, s => bodyTs r j e s
end
theorem bodyTs_at : ∀ (l : List Term) (j : Nat) (e : Env) (s : St) (t : Term), l[j]? = some t → bodyTs l j e s = bodyT t e s
  | [], j, e, s, t, h => by simp at h
  | t :: r, 0, e, s, u, h => by rw [bodyTs]; simp at h; rw [h]
  | t :: r, j + 1, e, s, u, h => by rw [bodyTs]; exact bodyTs_at r j e s u (by simpa using h)
theorem bodyT_eq (t : Term) (e : Env) (s : St) : bodyT t e s = match stepT t e (worked s) with
    | .next j e' s' => bodyTs t.next j e' s'
    | .call l s' => .call l s'
    | .stop st en sh s' => .stop st en sh s' := by cases t; rw [bodyT]; rfl
structure Fin' where
  stuck : Bool
  e : Int
  shows : List Int
  s : St
  steps : Nat
def bindEnv (ps : List Int) (l : List Val) : Env := fun x => ((ps.zip l).find? (fun p => p.1 == x)).map (·.2)
def fun0 : Int × List Int × Term := (0, [], .mk 0 0 0 false [] [] [] [])
def funAt (f : Flat) (n : Int) : Int × List Int × Term := f.funs.getD n.toNat fun0
def callOk (f : Flat) (l : List Val) : Bool := match l with
  | [] => false
  | v :: _ => v.kind == 3 && (funAt f v.n).2.1.length == l.length
def headN (l : List Val) : Int := (l.headD nov).n
/-- The machine, with so many steps left. -/
def loopF (f : Flat) : Nat → Term → Env → Nat → St → Fin'
  | 0, t, e, c, s => match bodyT t e s with
    | .stop st en sh s' => ⟨st, en, sh, s', c⟩
    | .call _ s' => ⟨false, 3, [], s', c⟩
  | k + 1, t, e, c, s => match bodyT t e s with
    | .stop st en sh s' => ⟨st, en, sh, s', c⟩
    | .call l s' => if callOk f l then loopF f k (funAt f (headN l)).2.2 (bindEnv (funAt f (headN l)).2.1 l) (c + 1) s' else ⟨true, 0, [], s', c + 1⟩
/-- What stands behind so many rounds: where a body was left. -/
def behind (f : Flat) (k c : Nat) : BOut → Fin'
  | .stop st en sh s' => ⟨st, en, sh, s', c⟩
  | .call l s' => match k with
    | 0 => ⟨false, 3, [], s', c⟩
    | k + 1 => if callOk f l then loopF f k (funAt f (headN l)).2.2 (bindEnv (funAt f (headN l)).2.1 l) (c + 1) s' else ⟨true, 0, [], s', c + 1⟩
theorem loopF_eq (f : Flat) (k : Nat) (t : Term) (e : Env) (c : Nat) (s : St) : loopF f k t e c s = behind f k c (bodyT t e s) := by
  cases k with
  | zero => rw [loopF]; cases bodyT t e s <;> rfl
  | succ k => rw [loopF]; cases bodyT t e s <;> rfl

/-- What is in w outside of S. -/
def memB (S : List Nat) (w : World) : Mp := fun a => if a.block ∈ S then none else w.cell? a
theorem memB_ag (S) (w : World) : Ag (memB S w) w := fun a v h => by unfold memB at h; split at h; cases h; exact h
/-- S' in w' is S in w, and what is new. -/
structure Ext (S : List Nat) (w : World) (S' : List Nat) (w' : World) : Prop where
  kept : Kept S w w'
  sub : ∀ k ∈ S, k ∈ S'
  new : ∀ k ∈ S', k ∈ S ∨ w.heap.size ≤ k
theorem Ext.refl (S w) : Ext S w S w := ⟨Kept.refl _ _, fun _ h => h, fun _ h => .inl h⟩
theorem Ext.of {S} {w w' : World} (h : Kept S w w') : Ext S w S w' := ⟨h, fun _ h => h, fun _ h => .inl h⟩
theorem Ext.below {S} {w w' : World} (h : Below w.heap.size w w') : Ext S w S w' := .of (Kept.below h)
theorem Ext.trans {S S' S'' w w' w''} (h : Ext S w S' w') (k : Ext S' w' S'' w'') : Ext S w S'' w'' :=
  ⟨⟨k.kept.os.trans h.kept.os, k.kept.tape.trans h.kept.tape, k.kept.output.trans h.kept.output, Nat.le_trans h.kept.size k.kept.size, fun i hi hs =>
    (k.kept.block i (Nat.lt_of_lt_of_le hi h.kept.size) (fun hm => (h.new i hm).elim hs (fun h2 => by omega))).trans (h.kept.block i hi hs)⟩,
   fun i hi => k.sub i (h.sub i hi), fun i hi => (k.new i hi).elim (fun h2 => h.new i h2) (fun h2 => .inr (Nat.le_trans h.kept.size h2))⟩
theorem Ext.mem {S S' w w'} (h : Ext S w S' w') : ∀ a v, memB S w a = some v → memB S' w' a = some v := by
  intro a v ha
  unfold memB at ha ⊢
  split at ha
  · cases ha
  · rename_i hs
    have hlt := World.block_lt_of_cell? w a ha
    rw [if_neg (fun hm => (h.new _ hm).elim hs (fun h2 => by omega))]
    exact h.kept.cell ha hs
inductive RVal (nf : Nat) (m : Mp) : Value → Val → Prop where
  | mk (k n : Int) (args : List Val) (b : Nat) (va : Value) (vp : Nat → Value) (ik : I64 k) (inn : I64 n) (hk : k = 3 → 0 ≤ n ∧ n < nf)
      (hc : Cells m b 0 [.int .i64 k, .int .i64 n, va]) (ha : Slc m 1 va args.length (fun i => [vp i])) (hv : ∀ i a, args[i]? = some a → RVal nf m (vp i) a) :
      RVal nf m (.pointer (some ⟨b, 0, none⟩)) (.mk k n args)
theorem RVal.mono {nf} {m m' : Mp} (h : ∀ a v, m a = some v → m' a = some v) {p v} (hr : RVal nf m p v) : RVal nf m' p v := by
  induction hr with
  | mk k n args b va vp ik inn hk hc ha hv ih => exact .mk k n args b va vp ik inn hk (hc.mono h) (ha.mono h) ih
/-- A pointer to a value, or none. -/
def ROpt (nf : Nat) (m : Mp) (p : Value) : Option Val → Prop
  | none => p = .pointer none
  | some v => RVal nf m p v
theorem ROpt.mono {nf} {m m' : Mp} (h : ∀ a v, m a = some v → m' a = some v) {p v} (hr : ROpt nf m p v) : ROpt nf m' p v := by
  cases v with
  | none => exact hr
  | some v => exact RVal.mono h hr
theorem RVal.open {nf} {m : Mp} {p v} (hr : RVal nf m p v) : ∃ b ab ac, p = .pointer (some ⟨b, 0, none⟩) ∧ I64 v.kind ∧ I64 v.n ∧ (v.kind = 3 → 0 ≤ v.n ∧ v.n < nf) ∧ v.args.length ≤ ac ∧ v.args.length ≤ 140737488355328 ∧
    (∀ w, Ag m w → w.cell? ⟨b, 0, none⟩ = some (.int .i64 v.kind) ∧ w.cell? ⟨b, 1, none⟩ = some (.int .i64 v.n) ∧ w.cell? ⟨b, 2, none⟩ = some (.slice ab v.args.length ac)) ∧
    (∀ i (hi : i < v.args.length), ∃ c o q, ab = some ⟨c, o, none⟩ ∧ RVal nf m q v.args[i] ∧ ∀ w, Ag m w → w.cell? ⟨c, o + i, none⟩ = some q) := by
  cases hr with
  | mk k n args b va vp ik inn hk hc ha hv =>
    obtain ⟨ab, ac, rfl, h1, h2, h3⟩ := ha
    refine ⟨b, ab, ac, rfl, ik, inn, hk, h1, h2, fun w hm => ⟨?_, ?_, ?_⟩, fun i hi => ?_⟩
    · exact hm _ _ (hc 0 _ rfl)
    · exact hm _ _ (hc 1 _ rfl)
    · exact hm _ _ (hc 2 _ rfl)
    · have hi' : i < args.length := hi
      obtain ⟨c, o, rfl, hcell⟩ := h3 (by omega)
      refine ⟨c, o, vp i, rfl, hv i _ (List.getElem?_eq_getElem hi'), fun w hm => ?_⟩
      have := hm _ _ ((hcell i hi').2 0 _ rfl)
      simpa using this
mutual
/-- The variables that a term binds, in the text's order. -/
def bindersT : Term → List Int
  | .mk k x _ _ _ _ _ next => (if bindsB k then [x] else []) ++ bindersTs next
def bindersTs : List Term → List Int
  | [] => []
  | t :: r => bindersT t ++ bindersTs r
end
theorem bindersT_eq (t : Term) : bindersT t = (if bindsB t.kind then [t.x] else []) ++ bindersTs t.next := by cases t; rw [bindersT]; rfl
def placesF (f : Int × List Int × Term) : List Int := f.2.1 ++ bindersT f.2.2
def numbered (l : List Int) : List (Int × Value) := l.zipIdx.map (fun p => (p.1, .int .i64 p.2))
theorem numbered_snoc (l : List Int) (x : Int) : numbered (l ++ [x]) = numbered l ++ [(x, .int .i64 l.length)] := by
  simp [numbered, List.zipIdx_append]
theorem numbered_length (l : List Int) : (numbered l).length = l.length := by simp [numbered]
theorem numbered_keys (l : List Int) : (numbered l).map (·.1) = l := by
  simp [numbered, List.map_map, Function.comp_def]
theorem numbered_none {l : List Int} {x : Int} (h : x ∉ l) : assoc (numbered l) x = none := by
  cases e : assoc (numbered l) x with
  | none => rfl
  | some v =>
    have h2 := assoc_mem e
    exact absurd (by rw [← numbered_keys l]; exact List.mem_map_of_mem (f := (·.1)) h2) h
theorem numbered_put {l : List Int} {x : Int} (h : x ∉ l) : putA (numbered l) x (.int .i64 l.length) = numbered (l ++ [x]) := by
  rw [putA_new (numbered_none h), numbered_snoc]
theorem assoc_append (a b : List (Int × Value)) (k : Int) : assoc (a ++ b) k = (assoc a k).or (assoc b k) := by
  induction a with
  | nil => simp [assoc_nil]
  | cons p r ih =>
    rw [List.cons_append, assoc_cons, assoc_cons, ih]
    split <;> rfl
theorem numbered_from : ∀ (l : List Int) (k : Nat), l.Nodup → ∀ i (hi : i < l.length), assoc ((l.zipIdx k).map (fun p => (p.1, Value.int .i64 p.2))) l[i] = some (.int .i64 (k + i : Nat))
  | [], _, _, i, hi => by simp at hi
  | x :: r, k, hn, 0, _ => by simp [List.zipIdx_cons, assoc_cons]
  | x :: r, k, hn, i + 1, hi => by
    rw [List.nodup_cons] at hn
    have h1 : ¬ x = (x :: r)[i + 1] := fun e => hn.1 (by rw [List.getElem_cons_succ] at e; rw [e]; exact List.getElem_mem _)
    rw [List.zipIdx_cons, List.map_cons, assoc_cons, if_neg h1, List.getElem_cons_succ, numbered_from r (k + 1) hn.2 i (by simpa using hi)]
    congr 3; omega
theorem numbered_at (l : List Int) (hn : l.Nodup) (i : Nat) (hi : i < l.length) : assoc (numbered l) l[i] = some (.int .i64 i) := by
  have := numbered_from l 0 hn i hi
  simpa [numbered] using this
end Go.Proofs.Ytimljadlfhccpaa
namespace Go.Proofs.Ytimljadlfhccpaa
open Go.RowKit

mutual
theorem goodT_met (nf : Nat) (main : Int) : ∀ (t : Term) (met A met' : List Int), goodT nf main t met A = some met' → met' = (bindersT t).reverse ++ met ∧ (met.Nodup → met'.Nodup)
  | .mk k x n i tg a fs next, met, A, met', h => by
    rw [goodT] at h
    rw [bindersT]
    split at h
    · split at h
      · split at h
        · rename_i hb hm
          obtain ⟨h1, h2⟩ := goodTs_met nf main next _ _ _ h
          rw [if_pos hb]
          refine ⟨by rw [h1]; simp, fun hn => h2 ?_⟩
          rw [List.nodup_cons]
          refine ⟨?_, hn⟩
          unfold mayBind at hm
          simp at hm
          exact hm.1.1
        · cases h
      · rename_i hb
        rw [if_neg hb]
        simpa using goodTs_met nf main next _ _ _ h
    · cases h
theorem goodTs_met (nf : Nat) (main : Int) : ∀ (l : List Term) (met A met' : List Int), goodTs nf main l met A = some met' → met' = (bindersTs l).reverse ++ met ∧ (met.Nodup → met'.Nodup)
  | [], met, A, met', h => by rw [goodTs] at h; injection h with h; subst h; rw [bindersTs]; simp
  | t :: r, met, A, met', h => by
    rw [goodTs] at h
    split at h
    · cases h
    · rename_i m hm
      obtain ⟨h1, h2⟩ := goodT_met nf main t _ _ _ hm
      obtain ⟨h3, h4⟩ := goodTs_met nf main r _ _ _ h
      rw [bindersTs]
      exact ⟨by rw [h3, h1]; simp, fun hn => h4 (h2 hn)⟩
end
theorem goodTs_at {nf : Nat} {main : Int} {A : List Int} : ∀ (l : List Term) (met met' : List Int), goodTs nf main l met A = some met' → ∀ j (hj : j < l.length), ∃ m1 m2, goodT nf main l[j] m1 A = some m2
  | [], _, _, _, j, hj => by simp at hj
  | t :: r, met, met', h, j, hj => by
    rw [goodTs] at h
    split at h
    · cases h
    · rename_i m hm
      cases j with
      | zero => exact ⟨_, _, hm⟩
      | succ j => simpa using goodTs_at r _ _ h j (by simpa using hj)
theorem bindersTs_at : ∀ (l : List Term) (j : Nat) (hj : j < l.length) (x : Int), x ∈ bindersT l[j] → x ∈ bindersTs l
  | [], j, hj, _, _ => by simp at hj
  | t :: r, j, hj, x, h => by
    rw [bindersTs, List.mem_append]
    cases j with
    | zero => exact .inl h
    | succ j => exact .inr (bindersTs_at r j (by simpa using hj) x (by simpa using h))
/-- What stands ahead of a term that the machine comes to. -/
structure Ready (f : Flat) (vl : List Int) (env : Env) (t : Term) : Prop where
  good : ∃ met A met', goodT f.funs.length f.main t met A = some met' ∧ ∀ x ∈ A, (∃ j : Nat, vl[j]? = some x) ∧ I64 x ∧ ∃ v, env x = some v
  bin : ∀ x ∈ bindersT t, ∃ j : Nat, vl[j]? = some x
theorem inB_I64 {n : Int} (h : inB n = true) : I64 n := by
  unfold inB at h; simp at h; unfold I64; omega
theorem mem_at {l : List Int} {x : Int} (h : x ∈ l) : ∃ j : Nat, l[j]? = some x := List.mem_iff_getElem?.1 h
theorem goodT_parts {nf : Nat} {main : Int} {t : Term} {met A met' : List Int} (h : goodT nf main t met A = some met') : formedB nf main t = true ∧ (∀ a ∈ t.args, atomOk A a = true) ∧
    (bindsB t.kind = true → mayBind met t.x = true ∧ goodTs nf main t.next (t.x :: met) (t.x :: A) = some met') ∧ (bindsB t.kind = false → goodTs nf main t.next met A = some met') := by
  rw [goodT_eq] at h
  split at h
  · rename_i h1
    rw [Bool.and_eq_true] at h1
    refine ⟨h1.1, fun a ha => List.all_eq_true.1 h1.2 a ha, fun hb => ?_, fun hb => ?_⟩
    · rw [if_pos hb] at h
      split at h
      · rename_i hm; exact ⟨hm, h⟩
      · cases h
    · rw [if_neg (by rw [hb]; decide)] at h; exact h
  · cases h
section
variable {f : Flat} {vl : List Int} {env : Env} {t : Term}
theorem Ready.formed (h : Ready f vl env t) : formedB f.funs.length f.main t = true := by
  obtain ⟨met, A, met', h1, _⟩ := h.good
  exact (goodT_parts h1).1
theorem Ready.atoms (h : Ready f vl env t) : ∀ a ∈ t.args, I64 a.n ∧ (a.var = true → ∃ (j : Nat) (v : Val), vl[j]? = some a.n ∧ env a.n = some v) := by
  obtain ⟨met, A, met', h1, h2⟩ := h.good
  intro a ha
  have h3 := (goodT_parts h1).2.1 a ha
  unfold atomOk at h3
  cases hv : a.var with
  | true =>
    rw [hv, if_pos rfl] at h3
    have h4 : a.n ∈ A := by simpa using h3
    obtain ⟨⟨j, hj⟩, hi, v, h5⟩ := h2 _ h4
    exact ⟨hi, fun _ => ⟨j, v, hj, h5⟩⟩
  | false =>
    rw [hv, if_neg (by decide)] at h3
    exact ⟨inB_I64 h3, fun e => by cases e⟩
theorem Ready.binder (h : Ready f vl env t) (hb : bindsB t.kind = true) : ∃ j : Nat, vl[j]? = some t.x :=
  h.bin _ (by rw [bindersT_eq, if_pos hb]; simp)
theorem Ready.bound (h : Ready f vl env t) (hb : bindsB t.kind = true) (v : Val) (j : Nat) (hj : j < t.next.length) : Ready f vl (upd env t.x v) t.next[j] := by
  obtain ⟨met, A, met', h1, h2⟩ := h.good
  obtain ⟨_, _, h3, _⟩ := goodT_parts h1
  obtain ⟨hm, h4⟩ := h3 hb
  obtain ⟨m1, m2, h5⟩ := goodTs_at _ _ _ h4 j hj
  refine ⟨⟨m1, _, m2, h5, fun x hx => ?_⟩, fun x hx => h.bin x (by rw [bindersT_eq, List.mem_append]; exact .inr (bindersTs_at _ _ _ _ hx))⟩
  by_cases e : x = t.x
  · subst e
    refine ⟨h.binder hb, ?_, v, by unfold upd; rw [if_pos rfl]⟩
    unfold mayBind at hm
    simp at hm
    unfold I64; omega
  · have hx' : x ∈ A := by simpa [e] using hx
    obtain ⟨a1, a2, u, a3⟩ := h2 x hx'
    exact ⟨a1, a2, u, by unfold upd; rw [if_neg e]; exact a3⟩
theorem Ready.same (h : Ready f vl env t) (hb : bindsB t.kind = false) (j : Nat) (hj : j < t.next.length) : Ready f vl env t.next[j] := by
  obtain ⟨met, A, met', h1, h2⟩ := h.good
  obtain ⟨_, _, _, h3⟩ := goodT_parts h1
  obtain ⟨m1, m2, h5⟩ := goodTs_at _ _ _ (h3 hb) j hj
  exact ⟨⟨m1, A, m2, h5, h2⟩, fun x hx => h.bin x (by rw [bindersT_eq, List.mem_append]; exact .inr (bindersTs_at _ _ _ _ hx))⟩
theorem formed_kinds {nf : Nat} {main : Int} (h : formedB nf main t = true) : t.kind = 1 ∨ t.kind = 2 ∨ t.kind = 3 ∨ t.kind = 5 ∨ t.kind = 6 ∨ t.kind = 7 ∨ t.kind = 8 ∨ t.kind = 9 ∨ t.kind = 10 := by
  by_cases h' : ¬ t.kind = 1 ∧ ¬ t.kind = 2 ∧ ¬ t.kind = 3 ∧ ¬ t.kind = 5 ∧ ¬ t.kind = 6 ∧ ¬ t.kind = 7 ∧ ¬ t.kind = 8 ∧ ¬ t.kind = 9 ∧ ¬ t.kind = 10
  · rw [formedB_no h'] at h; cases h
  · omega
end
/-- What a step leads to: the next term, with what stands ahead of it; and what was counted. -/
theorem stepT_next {f : Flat} {vl : List Int} {env env' : Env} {t : Term} {s s' : St} {j : Nat} (h : Ready f vl env t) (hs : stepT t env s = .next j env' s') :
    s'.work = s.work ∧ s'.made ≤ s.made + 65 ∧ s.made ≤ s'.made ∧ ∀ hj : j < t.next.length, Ready f vl env' t.next[j] := by
  have hf := h.formed
  unfold stepT at hs
  simp only at hs
  split at hs; · cases hs
  split at hs
  · rename_i _ hk
    split at hs
    · split at hs
      · cases hs
      · injection hs with e1 e2 e3; subst e1; subst e2; subst e3
        exact ⟨rfl, by omega, Nat.le_refl _, fun hj => h.bound (by rw [hk]; rfl) _ _ hj⟩
    · cases hs
  split at hs
  · rename_i _ _ hk
    rw [formedB_2 hk] at hf
    have hl := (of_decide_eq_true hf).2.2.2.1
    injection hs with e1 e2 e3; subst e1; subst e2; subst e3
    exact ⟨rfl, by show s.made + _ ≤ _; omega, by show s.made ≤ s.made + _; omega, fun hj => h.bound (by rw [hk]; rfl) _ _ hj⟩
  split at hs
  · rename_i _ _ _ hk
    rw [formedB_9 hk] at hf
    have hl := (of_decide_eq_true hf).2.2.2.1
    injection hs with e1 e2 e3; subst e1; subst e2; subst e3
    exact ⟨rfl, by show s.made + _ ≤ _; omega, by show s.made ≤ s.made + _; omega, fun hj => h.bound (by rw [hk]; rfl) _ _ hj⟩
  split at hs
  · rename_i _ _ _ _ hk
    split at hs
    · injection hs with e1 e2 e3; subst e1; subst e2; subst e3
      exact ⟨rfl, by omega, Nat.le_refl _, fun hj => h.bound (by rw [hk]; rfl) _ _ hj⟩
    · cases hs
  split at hs
  · rename_i _ _ _ _ _ hk
    split at hs
    · injection hs with e1 e2 e3; subst e1; subst e2; subst e3
      exact ⟨rfl, by omega, Nat.le_refl _, fun hj => h.bound (by rw [hk]; rfl) _ _ hj⟩
    · cases hs
  split at hs
  · rename_i _ _ _ _ _ _ hk
    split at hs
    · split at hs
      · injection hs with e1 e2 e3; subst e1; subst e2; subst e3
        exact ⟨rfl, by omega, Nat.le_refl _, fun hj => h.same (by rw [hk]; rfl) _ hj⟩
      · cases hs
    · cases hs
  split at hs
  · rename_i _ _ _ _ _ _ _ hk
    split at hs
    · split at hs
      · cases hs
      · injection hs with e1 e2 e3; subst e1; subst e2; subst e3
        exact ⟨rfl, by show s.made ≤ _; omega, Nat.le_refl _, fun hj => h.same (by rw [hk]; rfl) _ hj⟩
    · cases hs
  · split at hs <;> cases hs
theorem stepT_lt {t : Term} {env env' : Env} {s s' : St} {j : Nat} {nf : Nat} {main : Int} (hf : formedB nf main t = true) (hs : stepT t env s = .next j env' s') : j < t.next.length := by
  unfold stepT at hs
  simp only at hs
  split at hs; · cases hs
  split at hs
  · rename_i _ hk
    rw [formedB_1 hk] at hf
    have hl := (of_decide_eq_true hf).2.2.2.2.1
    split at hs
    · split at hs
      · cases hs
      · injection hs with e1 e2 e3; omega
    · cases hs
  split at hs
  · rename_i _ _ hk
    rw [formedB_2 hk] at hf
    have hl := (of_decide_eq_true hf).2.2.2.2.1
    injection hs with e1 e2 e3; omega
  split at hs
  · rename_i _ _ _ hk
    rw [formedB_9 hk] at hf
    have hl := (of_decide_eq_true hf).2.2.2.2.1
    injection hs with e1 e2 e3; omega
  split at hs
  · rename_i _ _ _ _ hk
    rw [formedB_3 hk] at hf
    have hl := (of_decide_eq_true hf).2.2.2.2.1
    split at hs
    · injection hs with e1 e2 e3; omega
    · cases hs
  split at hs
  · rename_i _ _ _ _ _ hk
    rw [formedB_10 hk] at hf
    have hl := (of_decide_eq_true hf).2.2.2.2.1
    split at hs
    · injection hs with e1 e2 e3; omega
    · cases hs
  split at hs
  · split at hs
    · split at hs
      · injection hs with e1 e2 e3; omega
      · cases hs
    · cases hs
  split at hs
  · rename_i _ _ _ _ _ _ _ hk
    rw [formedB_7 hk] at hf
    have hl := (of_decide_eq_true hf).2.2.2.2.2.2
    split at hs
    · split at hs
      · cases hs
      · injection hs with e1 e2 e3; omega
    · cases hs
  · split at hs <;> cases hs
theorem bindL_some : ∀ (l met A m' A' : List Int), bindL l met A = some (m', A') → met.Nodup → m' = l.reverse ++ met ∧ A' = l.reverse ++ A ∧ m'.Nodup ∧ ∀ x ∈ l, I64 x
  | [], met, A, m', A', h, hn => by rw [bindL] at h; injection h with h; injection h with h1 h2; subst h1; subst h2; exact ⟨by simp, by simp, hn, by simp⟩
  | x :: r, met, A, m', A', h, hn => by
    rw [bindL] at h
    split at h
    · rename_i hm
      unfold mayBind at hm
      simp at hm
      obtain ⟨h1, h2, h3, h4⟩ := bindL_some r _ _ _ _ h (by rw [List.nodup_cons]; exact ⟨hm.1.1, hn⟩)
      refine ⟨by rw [h1]; simp, by rw [h2]; simp, h3, fun y hy => ?_⟩
      rcases List.mem_cons.1 hy with e | e
      · subst e; unfold I64; omega
      · exact h4 y e
    · cases h
/-- A function of a good program. -/
theorem goodFun_parts {nf : Nat} {main : Int} {i : Nat} {g : Int × List Int × Term} (h : goodFun nf main i g = true) : g.1 = i ∧ 1 ≤ g.2.1.length ∧ g.2.1.length ≤ 17 ∧ ((i : Int) = main → g.2.1.length = 1) ∧ (placesF g).Nodup ∧ (∀ x ∈ g.2.1, I64 x) ∧
    ∃ met A met', goodT nf main g.2.2 met A = some met' ∧ ∀ x ∈ A, x ∈ g.2.1 := by
  unfold goodFun at h
  simp only [Bool.and_eq_true, decide_eq_true_iff, Bool.or_eq_true, Bool.not_eq_true', decide_eq_false_iff_not] at h
  obtain ⟨⟨⟨⟨h1, h2⟩, h3⟩, h4⟩, h5⟩ := h
  split at h5
  · cases h5
  · rename_i met A hb
    obtain ⟨b1, b2, b3, b4⟩ := bindL_some _ _ _ _ _ hb (by simp)
    obtain ⟨met', hm⟩ := Option.isSome_iff_exists.1 h5
    obtain ⟨g1, g2⟩ := goodT_met _ _ _ _ _ _ hm
    refine ⟨h1, h2, h3, fun e => h4.resolve_left (fun hn => hn e), ?_, b4, met, A, met', hm, fun x hx => by rw [b2] at hx; simpa using hx⟩
    have hn := g2 b3
    rw [g1, b1] at hn
    unfold placesF
    have : (g.2.1 ++ bindersT g.2.2).reverse.Nodup := by rw [List.reverse_append]; simpa using hn
    exact (List.pairwise_reverse.1 this).imp (fun h => h.symm)
theorem goodFuns_at {nf : Nat} {main : Int} : ∀ (l : List (Int × List Int × Term)) (i : Nat), goodFuns nf main i l = true → ∀ j (hj : j < l.length), goodFun nf main (i + j) l[j] = true
  | [], _, _, j, hj => by simp at hj
  | g :: r, i, h, j, hj => by
    rw [goodFuns, Bool.and_eq_true] at h
    cases j with
    | zero => exact h.1
    | succ j =>
      have := goodFuns_at r (i + 1) h.2 j (by simpa using hj)
      rw [show i + 1 + j = i + (j + 1) from by omega] at this
      simpa using this
structure GoodF (f : Flat) : Prop where
  pos : 1 ≤ f.funs.length
  most : f.funs.length ≤ 4096
  size : fsize f.funs ≤ 65536
  m0 : 0 ≤ f.main
  m1 : f.main < f.funs.length
  funs : ∀ j (hj : j < f.funs.length), goodFun f.funs.length f.main j f.funs[j] = true
theorem goodFlat_F {f : Flat} (h : goodFlat f = true) : GoodF f := by
  unfold goodFlat at h
  simp only [Bool.and_eq_true, decide_eq_true_iff] at h
  obtain ⟨⟨⟨⟨⟨h1, h2⟩, h3⟩, h4⟩, h5⟩, h6⟩ := h
  exact ⟨h1, h2, h3, h4, h5, fun j hj => by simpa using goodFuns_at _ 0 h6 j hj⟩
theorem bindEnv_some : ∀ (ps : List Int) (l : List Val) (x : Int), x ∈ ps → ps.length = l.length → ∃ v, bindEnv ps l x = some v
  | [], _, x, h, _ => by simp at h
  | p :: r, [], _, _, hl => by simp at hl
  | p :: r, v :: l, x, h, hl => by
    unfold bindEnv
    rw [List.zip_cons_cons, List.find?_cons]
    by_cases e : p = x
    · subst e; simp
    · rw [show ((p, v).1 == x) = false from by simpa using e]
      have := bindEnv_some r l x (by simpa [Ne.symm e] using h) (by simpa using hl)
      exact this
theorem GoodF.ready {f : Flat} (h : GoodF f) {i : Nat} (hi : i < f.funs.length) {vals : List Val} (hl : f.funs[i].2.1.length = vals.length) : Ready f (placesF f.funs[i]) (bindEnv f.funs[i].2.1 vals) f.funs[i].2.2 := by
  obtain ⟨h1, h2, h3, h4, h5, h6, met, A, met', h7, h8⟩ := goodFun_parts (h.funs i hi)
  refine ⟨⟨met, A, met', h7, fun x hx => ⟨?_, h6 x (h8 x hx), bindEnv_some _ _ _ (h8 x hx) hl⟩⟩, fun x hx => ?_⟩
  · exact mem_at (by unfold placesF; rw [List.mem_append]; exact .inl (h8 x hx))
  · exact mem_at (by unfold placesF; rw [List.mem_append]; exact .inr hx)
mutual
def tcount : Term → Nat
  | .mk _ _ _ _ _ _ _ next => tcounts next + 1
def tcounts : List Term → Nat
  | [] => 0
  | t :: r => tcount t + tcounts r
end
theorem tcount_eq (t : Term) : tcount t = tcounts t.next + 1 := by cases t; rw [tcount]; rfl
theorem tcounts_at : ∀ (l : List Term) (j : Nat) (hj : j < l.length), tcount l[j] ≤ tcounts l
  | [], j, hj => by simp at hj
  | t :: r, 0, hj => by rw [tcounts]; simp
  | t :: r, j + 1, hj => by
    rw [tcounts]
    have := tcounts_at r j (by simpa using hj)
    simp only [List.getElem_cons_succ]
    omega
theorem tcount_next {t : Term} {j : Nat} (hj : j < t.next.length) : tcount t.next[j] < tcount t := by
  have := tcounts_at _ _ hj
  rw [tcount_eq t]
  omega
mutual
theorem tcount_le : ∀ (t : Term) (n : Int), size t n ≤ 65536 → n + tcount t ≤ size t n
  | .mk _ _ _ _ _ _ funs next, n, h => by
    rw [size] at h ⊢
    rw [tcount]
    have h1 := sizeFs_ge funs (n + 1)
    have h2 := tcounts_le next _ h
    omega
theorem tcounts_le : ∀ (l : List Term) (n : Int), sizeTs l n ≤ 65536 → n + tcounts l ≤ sizeTs l n
  | [], n, h => by rw [sizeTs, tcounts]; omega
  | t :: r, n, h => by
    rw [sizeTs] at h ⊢
    rw [tcounts]
    split at h
    · rename_i hn
      rw [if_pos hn]
      have h1 := tcounts_le r _ h
      have h2 := sizeTs_ge r (size t n)
      have h3 := tcount_le t n (by omega)
      omega
    · omega
end
theorem sumS_ge : ∀ (l : List (Int × List Int × Term)) (n : Int), n ≤ sumS l n
  | [], n => by rw [sumS]; omega
  | f :: r, n => by
    rw [sumS]
    split
    · have h1 := sumS_ge r (n + size f.2.2 0)
      have h2 := size_ge f.2.2 0
      omega
    · omega
theorem sumS_at : ∀ (l : List (Int × List Int × Term)) (n : Int), 0 ≤ n → sumS l n ≤ 65536 → ∀ j (hj : j < l.length), size l[j].2.2 0 ≤ 65536
  | [], _, _, _, j, hj => by simp at hj
  | f :: r, n, h0, h, j, hj => by
    rw [sumS] at h
    split at h
    · have h1 := sumS_ge r (n + size f.2.2 0)
      have h2 := size_ge f.2.2 0
      cases j with
      | zero => simp only [List.getElem_cons_zero]; omega
      | succ j => exact sumS_at r _ (by omega) h j (by simpa using hj)
    · omega
theorem GoodF.tcount {f : Flat} (h : GoodF f) {i : Nat} (hi : i < f.funs.length) : tcount f.funs[i].2.2 ≤ 65536 := by
  have h1 := h.size
  unfold fsize at h1
  split at h1
  · rename_i h2
    have h3 := sumS_at _ _ (Int.le_refl 0) h2 i hi
    have h4 := tcount_le _ _ h3
    omega
  · omega
mutual
theorem binders_le : ∀ t : Term, (bindersT t).length ≤ tcount t
  | .mk k x _ _ _ _ _ next => by
    rw [bindersT, _root_.Go.Proofs.Ytimljadlfhccpaa.tcount, List.length_append]
    have := binders_les next
    split <;> simp <;> omega
theorem binders_les : ∀ l : List Term, (bindersTs l).length ≤ tcounts l
  | [] => by rw [bindersTs, tcounts]; simp
  | t :: r => by
    rw [bindersTs, tcounts, List.length_append]
    have := binders_le t
    have := binders_les r
    omega
end
theorem GoodF.places {f : Flat} (h : GoodF f) {i : Nat} (hi : i < f.funs.length) : (placesF f.funs[i]).length ≤ 65553 := by
  obtain ⟨h1, h2, h3, _⟩ := goodFun_parts (h.funs i hi)
  have h4 := binders_le f.funs[i].2.2
  have h5 := h.tcount hi
  rw [placesF, List.length_append]
  omega
end Go.Proofs.Ytimljadlfhccpaa
