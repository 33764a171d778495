/- The document's machine: values, variables, and the machine in memory. The document's machine: it shows a value; which arm a switch takes. -/
import Derived.Test.YtimljadlfhccpaaProg
import Derived.Test.YtimljadlfhccpaaMJ
import Derived.Test.YtimljadlfhccpaaMG
import Derived.Test.YtimljadlfhccpaaPush
import Derived.Test.YtimljadlfhccpaaMFi
import Derived.Deep.LoopGhost
import Derived.Deep.CutBlock
import Derived.Deep.DeepCutAuto
set_option linter.all false
set_option linter.all false
set_option linter.all false
namespace Go.Proofs.Ytimljadlfhccpaa
open Go.RowKit

/-- A value of the document's: its cells. -/
inductive RV (nf : Nat) (m : Mp) : Value → Val → Prop where
  | mk (k n : Int) (args : List Val) (b : Nat) (va : Value) (vp : Nat → Value) (hk : k = 1 ∨ k = 2 ∨ k = 3) (inn : I64 n) (h3 : k = 3 → 0 ≤ n ∧ n < nf)
      (hc : Cells m b 0 [.bool (decide (k = 1)), .int .i64 (if k = 3 then 0 else n), .int .i64 (if k = 3 then n + 1 else 0), va]) (ha : Slc m 1 va args.length (fun i => [vp i])) (hv : ∀ i a, args[i]? = some a → RV nf m (vp i) a) :
      RV nf m (.pointer (some ⟨b, 0, none⟩)) (.mk k n args)
theorem RV.mono {nf} {m m' : Mp} (h : ∀ a v, m a = some v → m' a = some v) {p v} (hr : RV nf m p v) : RV nf m' p v := by
  induction hr with
  | mk k n args b va vp hk inn h3 hc ha hv ih => exact .mk k n args b va vp hk inn h3 (hc.mono h) (ha.mono h) ih
theorem RV.ptr {nf m p v} (h : RV nf m p v) : ∃ b, p = .pointer (some ⟨b, 0, none⟩) := by cases h; exact ⟨_, rfl⟩
theorem RV.one {nf m p v} (h : RV nf m p v) : p.oneCell' = true := by cases h; rfl
/-- What is there of a value. -/
structure RVo (nf : Nat) (m : Mp) (b : Nat) (v : Val) (ab : Option Addr) (ac : Nat) : Prop where
  hk : v.kind = 1 ∨ v.kind = 2 ∨ v.kind = 3
  inn : I64 v.n
  h3 : v.kind = 3 → 0 ≤ v.n ∧ v.n < nf
  le : v.args.length ≤ ac
  bd : v.args.length ≤ 140737488355328
  cells : ∀ w, Ag m w → w.cell? ⟨b, 0, none⟩ = some (.bool (decide (v.kind = 1))) ∧ w.cell? ⟨b, 1, none⟩ = some (.int .i64 (if v.kind = 3 then 0 else v.n)) ∧ w.cell? ⟨b, 2, none⟩ = some (.int .i64 (if v.kind = 3 then v.n + 1 else 0)) ∧ w.cell? ⟨b, 3, none⟩ = some (.slice ab v.args.length ac)
  arg : ∀ i (hi : i < v.args.length), ∃ c o q, ab = some ⟨c, o, none⟩ ∧ RV nf m q v.args[i] ∧ ∀ w, Ag m w → w.cell? ⟨c, o + i, none⟩ = some q
theorem RV.open {nf} {m : Mp} {p v} (hr : RV nf m p v) : ∃ b ab ac, p = .pointer (some ⟨b, 0, none⟩) ∧ RVo nf m b v ab ac := by
  cases hr with
  | mk k n args b va vp hk inn h3 hc ha hv =>
    obtain ⟨ab, ac, rfl, h1, h2, h4⟩ := ha
    refine ⟨b, ab, ac, rfl, hk, inn, h3, h1, h2, fun w hm => ⟨hm _ _ (hc 0 _ rfl), hm _ _ (hc 1 _ rfl), hm _ _ (hc 2 _ rfl), hm _ _ (hc 3 _ rfl)⟩, fun i hi => ?_⟩
    have hi' : i < args.length := hi
    obtain ⟨c, o, rfl, hcell⟩ := h4 (by omega)
    refine ⟨c, o, vp i, rfl, hv i _ (List.getElem?_eq_getElem hi'), fun w hm => ?_⟩
    have := hm _ _ ((hcell i hi').2 0 _ rfl)
    simpa using this
theorem RVo.c1 {nf m b v ab ac} (h : RVo nf m b v ab ac) (hk : v.kind = 1) (w : World) (hm : Ag m w) : w.cell? ⟨b, 0, none⟩ = some (.bool true) ∧ w.cell? ⟨b, 1, none⟩ = some (.int .i64 v.n) ∧ w.cell? ⟨b, 2, none⟩ = some (.int .i64 0) ∧ w.cell? ⟨b, 3, none⟩ = some (.slice ab v.args.length ac) := by
  obtain ⟨a, b, c, d⟩ := h.cells w hm
  rw [hk] at a b c
  exact ⟨a, b, c, d⟩
theorem RVo.c2 {nf m b v ab ac} (h : RVo nf m b v ab ac) (hk : v.kind = 2) (w : World) (hm : Ag m w) : w.cell? ⟨b, 0, none⟩ = some (.bool false) ∧ w.cell? ⟨b, 1, none⟩ = some (.int .i64 v.n) ∧ w.cell? ⟨b, 2, none⟩ = some (.int .i64 0) ∧ w.cell? ⟨b, 3, none⟩ = some (.slice ab v.args.length ac) := by
  obtain ⟨a, b, c, d⟩ := h.cells w hm
  rw [hk] at a b c
  exact ⟨a, b, c, d⟩
theorem RVo.c3 {nf m b v ab ac} (h : RVo nf m b v ab ac) (hk : v.kind = 3) (w : World) (hm : Ag m w) : w.cell? ⟨b, 0, none⟩ = some (.bool false) ∧ w.cell? ⟨b, 1, none⟩ = some (.int .i64 0) ∧ w.cell? ⟨b, 2, none⟩ = some (.int .i64 (v.n + 1)) ∧ w.cell? ⟨b, 3, none⟩ = some (.slice ab v.args.length ac) := by
  obtain ⟨a, b, c, d⟩ := h.cells w hm
  rw [hk] at a b c
  exact ⟨a, b, c, d⟩
/-- Values side by side. -/
def RVs (nf : Nat) (m : Mp) (ps : List Value) (vs : List Val) : Prop := ps.length = vs.length ∧ ∀ (i : Nat) (p : Value) (v : Val), ps[i]? = some p → vs[i]? = some v → RV nf m p v
theorem RVs.mono {nf} {m m' : Mp} (h : ∀ a v, m a = some v → m' a = some v) {ps vs} (hr : RVs nf m ps vs) : RVs nf m' ps vs := ⟨hr.1, fun i p v h1 h2 => (hr.2 i p v h1 h2).mono h⟩
theorem RVs.nil (nf : Nat) (m : Mp) : RVs nf m [] [] := ⟨rfl, fun i p v h => by simp at h⟩
theorem RVs.snoc {nf} {m : Mp} {ps vs p v} (hr : RVs nf m ps vs) (h : RV nf m p v) : RVs nf m (ps ++ [p]) (vs ++ [v]) := by
  refine ⟨by simp [hr.1], fun i q u h1 h2 => ?_⟩
  by_cases hi : i < ps.length
  · rw [List.getElem?_append_left hi] at h1
    rw [List.getElem?_append_left (by rw [← hr.1]; exact hi)] at h2
    exact hr.2 i q u h1 h2
  · have h3 : i = ps.length := by
      have := List.getElem?_eq_some_iff.1 h1
      obtain ⟨h4, _⟩ := this
      simp at h4; omega
    subst h3
    rw [List.getElem?_append_right (Nat.le_refl _)] at h1
    rw [hr.1, List.getElem?_append_right (Nat.le_refl _)] at h2
    simp at h1 h2
    subst h1; subst h2
    exact h
theorem pushed_vs {nf : Nat} {S : List Nat} {base : Nat} {e : TypeId} {wr w2 w3 : World} {v v' p : Value} {n j : Nat} {xs ps : List Value} {vals : List Val} {u : Val} (hps : RVs nf (memB (v.ownBlock.toList ++ S) wr) ps (vals.take j)) (hj : vals[j]? = some u)
    (h12 : Below wr.heap.size wr w2) (hp : RV nf (memB (v.ownBlock.toList ++ S) w2) p u) (h : Pushed base e w2 w3 v v' n xs) : RVs nf (memB (v'.ownBlock.toList ++ S) w3) (ps ++ [p]) (vals.take (j + 1)) := by
  have e : vals.take (j + 1) = vals.take j ++ [u] := by
    obtain ⟨hj', rfl⟩ := List.getElem?_eq_some_iff.1 hj
    exact List.take_succ_eq_append_getElem hj'
  rw [e]
  exact ((hps.mono (Ext.below h12).mem).snoc hp).mono (mem_sub (h.kept S) (h.sub S))
/-- A slice of values. -/
def RArgs (nf : Nat) (m : Mp) (v : Value) (l : List Val) : Prop := ∃ vp : Nat → Value, Slc m 1 v l.length (fun i => [vp i]) ∧ ∀ i a, l[i]? = some a → RV nf m (vp i) a
theorem RArgs.mono {nf} {m m' : Mp} (h : ∀ a v, m a = some v → m' a = some v) {v l} (hr : RArgs nf m v l) : RArgs nf m' v l := by
  obtain ⟨vp, h1, h2⟩ := hr
  exact ⟨vp, h1.mono h, fun i a hi => (h2 i a hi).mono h⟩
theorem RArgs.open {nf} {m : Mp} {v l} (hr : RArgs nf m v l) : ∃ ab ac, v = .slice ab l.length ac ∧ l.length ≤ ac ∧ l.length ≤ 140737488355328 ∧ ∀ i (hi : i < l.length), ∃ c o q, ab = some ⟨c, o, none⟩ ∧ RV nf m q l[i] ∧ ∀ w, Ag m w → w.cell? ⟨c, o + i, none⟩ = some q := by
  obtain ⟨vp, ⟨ab, ac, rfl, h1, h2, h4⟩, hv⟩ := hr
  refine ⟨ab, ac, rfl, h1, h2, fun i hi => ?_⟩
  obtain ⟨c, o, rfl, hcell⟩ := h4 (by omega)
  refine ⟨c, o, vp i, rfl, hv i _ (List.getElem?_eq_getElem hi), fun w hm => ?_⟩
  have := hm _ _ ((hcell i hi).2 0 _ rfl)
  simpa using this
theorem RArgs.of {nf : Nat} {S : List Nat} {base : Nat} {e : TypeId} {w : World} {v : Value} {n : Nat} {ps : List Value} {l : List Val} (ho : w.ownsRow base e 1 v n ps) (hr : RVs nf (memB S w) ps l) (hn : n = l.length) (hS : ∀ k ∈ S, k < base) (hb : n ≤ 140737488355328) : RArgs nf (memB S w) v l := by
  refine ⟨fun i => ps.getD i (.pointer none), ?_, fun i a hi => ?_⟩
  · subst hn
    have hl := ho.1
    rcases ho.2 with ⟨rfl, h0⟩ | ⟨g, cap, cur, rfl, hg, _, hnc, _⟩
    · rw [h0]; exact ⟨none, 0, rfl, by simp, by simp, by simp⟩
    · refine ⟨some ⟨g, 0, none⟩, cap, rfl, hnc, hb, fun h0 => ⟨g, 0, rfl, fun i hi => ⟨rfl, fun j u hj => ?_⟩⟩⟩
      have hj0 : j = 0 := by have := (List.getElem?_eq_some_iff.1 hj).1; simp at this; exact this
      subst hj0
      simp at hj
      subst hj
      have hip : i < ps.length := by simp at hl; omega
      have hc := ho.cells (g := g) rfl i ps[i] (List.getElem?_eq_getElem hip)
      unfold memB
      rw [if_neg (fun hm => by have := hS _ hm; simp at this; omega)]
      have ea : (⟨g, 0, none⟩ : Addr).add i = ⟨g, i, none⟩ := by by_cases h : i = 0 <;> simp [Addr.add, h]
      rw [ea] at hc
      simp
      rw [hc, List.getElem?_eq_getElem hip]; rfl
  · have hl := hr.1
    have hil := (List.getElem?_eq_some_iff.1 hi).1
    have hip : i < ps.length := by omega
    have h2 : ps.getD i (.pointer none) = ps[i] := by simp [List.getD_eq_getElem?_getD, hip]
    show RV nf (memB S w) (ps.getD i (.pointer none)) a
    rw [h2]
    exact hr.2 i _ a (List.getElem?_eq_getElem hip) hi
theorem cells4 {m : Mp} {b : Nat} {c0 c1 c2 c3 : Value} (h0 : m ⟨b, 0, none⟩ = some c0) (h1 : m ⟨b, 1, none⟩ = some c1) (h2 : m ⟨b, 2, none⟩ = some c2) (h3 : m ⟨b, 3, none⟩ = some c3) : Cells m b 0 [c0, c1, c2, c3] := by
  intro j v hj
  match j, hj with
  | 0, hj => simp at hj; subst hj; simpa using h0
  | 1, hj => simp at hj; subst hj; simpa using h1
  | 2, hj => simp at hj; subst hj; simpa using h2
  | 3, hj => simp at hj; subst hj; simpa using h3
  | j + 4, hj => simp at hj
/-- A value that has just been made. -/
theorem RV.new {nf : Nat} {S : List Nat} {w : World} {k n : Int} {args : List Val} {va : Value} {t : TypeId} (hk : k = 1 ∨ k = 2 ∨ k = 3) (inn : I64 n) (h3 : k = 3 → 0 ≤ n ∧ n < nf) (ha : RArgs nf (memB S w) va args) (hS : ∀ j ∈ S, j < w.heap.size) :
    RV nf (memB S (w.alloc (.cells #[.bool (decide (k = 1)), .int .i64 (if k = 3 then 0 else n), .int .i64 (if k = 3 then n + 1 else 0), va] t))) (.pointer (some ⟨w.heap.size, 0, none⟩)) (.mk k n args) := by
  have hb := BoxAt.new w [.bool (decide (k = 1)), .int .i64 (if k = 3 then 0 else n), .int .i64 (if k = 3 then n + 1 else 0), va] t
  obtain ⟨vp, h1, h2⟩ := ha.mono (Ext.below (below_box w (.cells #[.bool (decide (k = 1)), .int .i64 (if k = 3 then 0 else n), .int .i64 (if k = 3 then n + 1 else 0), va] t))).mem
  have hin : ∀ j v, (w.alloc (.cells #[.bool (decide (k = 1)), .int .i64 (if k = 3 then 0 else n), .int .i64 (if k = 3 then n + 1 else 0), va] t)).cell? ⟨w.heap.size, j, none⟩ = some v → memB S (w.alloc (.cells #[.bool (decide (k = 1)), .int .i64 (if k = 3 then 0 else n), .int .i64 (if k = 3 then n + 1 else 0), va] t)) ⟨w.heap.size, j, none⟩ = some v := by
    intro j v hj
    unfold memB
    rw [if_neg (fun hm => by have := hS _ hm; simp at this)]
    exact hj
  exact .mk k n args _ va vp hk inn h3 (cells4 (hin _ _ (hb.2 0 _ rfl)) (hin _ _ (hb.2 1 _ rfl)) (hin _ _ (hb.2 2 _ rfl)) (hin _ _ (hb.2 3 _ rfl))) h1 h2
theorem RArgs.nil (nf : Nat) (m : Mp) : RArgs nf m (.slice none 0 0) [] := ⟨fun _ => .pointer none, ⟨none, 0, rfl, by simp, by simp, by simp⟩, by simp⟩
/-- The variables of a body that is run: a map. -/
structure EnvM (nf : Nat) (S : List Nat) (w : World) (eb : Nat) (env : Env) : Prop where
  ex : ∃ es, IMap w eb es ∧ ∀ x v, env x = some v → ∃ p, assoc es x = some p ∧ RV nf (memB S w) p v
theorem EnvM.lt {nf S w eb env} (h : EnvM nf S w eb env) : eb < w.heap.size := by obtain ⟨es, h1, _⟩ := h.ex; exact h1.lt
theorem EnvM.ext {nf : Nat} {S S' : List Nat} {w w' : World} {eb : Nat} {env : Env} (h : EnvM nf S w eb env) (he : Ext S w S' w') (hb : w'.heap[eb]? = w.heap[eb]?) : EnvM nf S' w' eb env := by
  obtain ⟨es, h1, h2⟩ := h.ex
  refine ⟨es, h1.same hb, fun x v hv => ?_⟩
  obtain ⟨p, h3, h4⟩ := h2 x v hv
  exact ⟨p, h3, h4.mono he.mem⟩
theorem EnvM.later {nf : Nat} {S : List Nat} {w w' : World} {eb : Nat} {env : Env} (h : EnvM nf S w eb env) (hb : Below w.heap.size w w') : EnvM nf S w' eb env := h.ext (Ext.below hb) (hb.block _ h.lt)
theorem EnvM.look {nf : Nat} {S : List Nat} {w : World} {eb : Nat} {env : Env} (h : EnvM nf S w eb env) {x : Int} {v : Val} (hv : env x = some v) : ∃ es p, IMap w eb es ∧ (assoc es x).getD (.pointer none) = p ∧ RV nf (memB S w) p v := by
  obtain ⟨es, h1, h2⟩ := h.ex
  obtain ⟨p, h3, h4⟩ := h2 x v hv
  exact ⟨es, p, h1, by rw [h3]; rfl, h4⟩
theorem EnvM.put {nf : Nat} {S : List Nat} {w w' : World} {eb : Nat} {env : Env} {es : List (Int × Value)} (h2 : ∀ x v, env x = some v → ∃ p, assoc es x = some p ∧ RV nf (memB S w) p v) {x : Int} {p : Value} {v : Val} (hp : RV nf (memB S w) p v) (hI : IMap w' eb (putA es x p)) (he : Ext S w S w') : EnvM nf S w' eb (upd env x v) := by
  refine ⟨_, hI, fun y u hu => ?_⟩
  rw [assoc_put]
  unfold upd at hu
  by_cases e : y = x
  · subst e
    rw [if_pos rfl] at hu
    injection hu with hu
    subst hu
    exact ⟨p, by rw [if_pos rfl], hp.mono he.mem⟩
  · rw [if_neg e] at hu
    obtain ⟨q, h3, h4⟩ := h2 y u hu
    exact ⟨q, by rw [if_neg e]; exact h3, h4.mono he.mem⟩
theorem ownsRow_keptS {S : List Nat} {w w' : World} {base : Nat} {e : TypeId} {size : Nat} {v : Value} {n : Nat} {xs : List Value} (h : w.ownsRow base e size v n xs) (hk : Kept S w w') (hR : ∀ k, v.ownBlock = some k → k ∉ S) : w'.ownsRow base e size v n xs := by
  refine ⟨h.1, ?_⟩
  rcases h.2 with hn | ⟨g, cap, cur, rfl, hb, hgg, rest⟩
  · exact .inl hn
  · refine .inr ⟨g, cap, cur, rfl, hb, ?_, rest⟩
    rw [hk.block g (Array.getElem?_eq_some_iff.1 hgg).1 (hR g rfl)]
    exact hgg
/-- The document's machine in memory. -/
structure Rn (R base : Nat) (Fb : Option Addr) (Fc : Nat) (f : Flat) (fuel : Int) (w : World) (S : List Nat) (steps : Nat) (s : St) (vw vs : Value) : Prop where
  inS : R ∈ S
  lt : ∀ k ∈ S, k < w.heap.size
  new : ∀ k ∈ S, base ≤ k
  c0 : w.cell? ⟨R, 0, none⟩ = some (.slice Fb f.funs.length Fc)
  c1 : w.cell? ⟨R, 1, none⟩ = some (.int .i64 f.main)
  c2 : w.cell? ⟨R, 2, none⟩ = some (.int .i64 steps)
  c3 : w.cell? ⟨R, 3, none⟩ = some (.int .i64 fuel)
  c4 : w.cell? ⟨R, 4, none⟩ = some (.int .i64 s.made)
  c5 : w.cell? ⟨R, 5, none⟩ = some (.int .i64 s.work)
  c6 : w.cell? ⟨R, 6, none⟩ = some vw
  c7 : w.cell? ⟨R, 7, none⟩ = some vs
  fz : ∀ j, w.frozen? ⟨R, j, none⟩ = false
  ownW : w.ownsRow base 3 1 vw s.writes.length (s.writes.map (.int .i64))
  rowW : ∀ k, vw.ownBlock = some k → k ∈ S
  ne : vw.ownBlock ≠ some R
  i64W : ∀ x ∈ s.writes, I64 x
  lenW : s.writes.length ≤ 4096
section
variable {R base : Nat} {Fb : Option Addr} {Fc : Nat} {f : Flat} {fuel : Int} {w w' : World} {S : List Nat} {steps : Nat} {s : St} {vw vs : Value}
theorem Rn.kept (h : Rn R base Fb Fc f fuel w S steps s vw vs) {T : List Nat} (hk : Kept T w w') (hR : R ∉ T) (hr : ∀ k, vw.ownBlock = some k → k ∉ T) : Rn R base Fb Fc f fuel w' S steps s vw vs := by
  have hb := hk.block R (h.lt R h.inS) hR
  have hc : ∀ j, w'.cell? ⟨R, j, none⟩ = w.cell? ⟨R, j, none⟩ := fun j => World.cell?_of_block hb
  exact ⟨h.inS, fun k hk' => Nat.lt_of_lt_of_le (h.lt k hk') hk.size, h.new, (hc _).trans h.c0, (hc _).trans h.c1, (hc _).trans h.c2, (hc _).trans h.c3, (hc _).trans h.c4, (hc _).trans h.c5, (hc _).trans h.c6, (hc _).trans h.c7,
    fun j => (World.frozen?_of_block (a := ⟨R, j, none⟩) hb).trans (h.fz j), ownsRow_keptS h.ownW hk hr, h.rowW, h.ne, h.i64W, h.lenW⟩
theorem Rn.later (h : Rn R base Fb Fc f fuel w S steps s vw vs) (hb : Below w.heap.size w w') : Rn R base Fb Fc f fuel w' S steps s vw vs := h.kept (T := []) (Kept.below hb) (by simp) (by simp)
theorem Rn.ltR (h : Rn R base Fb Fc f fuel w S steps s vw vs) : R < w.heap.size := h.lt R h.inS
/-- A count, or a list, is stored. -/
theorem Rn.set (h : Rn R base Fb Fc f fuel w S steps s vw vs) (i : Nat) (u : Value) {steps' : Nat} {s' : St} {vs' : Value} (hs : s'.writes = s.writes)
    (e2 : (if i = 2 then u else .int .i64 steps) = .int .i64 steps') (e4 : (if i = 4 then u else .int .i64 s.made) = .int .i64 s'.made) (e5 : (if i = 5 then u else .int .i64 s.work) = .int .i64 s'.work) (e7 : (if i = 7 then u else vs) = vs') (hi : i = 2 ∨ i = 4 ∨ i = 5 ∨ i = 7) :
    Rn R base Fb Fc f fuel (w.setCell ⟨R, i, none⟩ u) S steps' s' vw vs' := by
  have hx : ∀ j v, w.cell? ⟨R, j, none⟩ = some v → (w.setCell ⟨R, i, none⟩ u).cell? ⟨R, j, none⟩ = some (if i = j then u else v) := by
    intro j v hj
    by_cases e : i = j
    · subst e; rw [if_pos rfl]; exact World.cell?_setCell_same _ _ _ hj
    · rw [if_neg e, World.cell?_setCell_other]
      · exact hj
      · simp <;> omega
  refine ⟨h.inS, fun k hk' => by rw [size_setCell]; exact h.lt k hk', h.new, ?_, ?_, ?_, ?_, ?_, ?_, ?_, ?_, fun j => by rw [World.frozen?_setCell]; exact h.fz j, ?_, h.rowW, h.ne, by rw [hs]; exact h.i64W, by rw [hs]; exact h.lenW⟩
  · have := hx 0 _ h.c0; rwa [if_neg (by omega)] at this
  · have := hx 1 _ h.c1; rwa [if_neg (by omega)] at this
  · have := hx 2 _ h.c2; rwa [e2] at this
  · have := hx 3 _ h.c3; rwa [if_neg (by omega)] at this
  · have := hx 4 _ h.c4; rwa [e4] at this
  · have := hx 5 _ h.c5; rwa [e5] at this
  · have := hx 6 _ h.c6; rwa [if_neg (by omega)] at this
  · have := hx 7 _ h.c7; rwa [e7] at this
  · rw [hs]; exact ownsRow_setCell_other h.ownW h.ne _
theorem Rn.ext (h : Rn R base Fb Fc f fuel w S steps s vw vs) (i : Nat) (u : Value) : Ext S w S (w.setCell ⟨R, i, none⟩ u) := Ext.of (kept_setCell h.inS _ _ _)
end
end Go.Proofs.Ytimljadlfhccpaa
set_option linter.all false
namespace Go.Proofs.Ytimljadlfhccpaa
open Go.RowKit
set_option maxHeartbeats 1000000

/-- How it ends, as a number; and what was shown. -/
def ShIs (r : (Bool × Int) ⊕ List Int) (en : Int) (xs : List Int) : Prop := match r with
  | .inl (st, e) => en = (if st then -1 else e) ∧ en ≠ 1
  | .inr l => en = 1 ∧ xs = l
def ShowP (base : Nat) (r : (Bool × Int) ⊕ List Int) (w : World) (e : Ending) (w' : World) : Prop := ∃ vl xs en, e = .returned (.tuple #[vl, .int .i64 en]) ∧ Below base w w' ∧ w'.ownsRow base 3 1 vl xs.length (xs.map (.int .i64)) ∧ (∀ x ∈ xs, I64 x) ∧ xs.length ≤ 4096 ∧ ShIs r en xs
def RShow (nf : Nat) (v : Val) : Prop := ∀ (m : Mp) (p : Value), RV nf m p v → ∀ (w : World) (base : Nat) (vl : Value) (xs : List Int), Ag m w → (∀ a u, m a = some u → a.block < base) → base ≤ w.heap.size → w.ownsRow base 3 1 vl xs.length (xs.map (.int .i64)) → (∀ x ∈ xs, I64 x) → xs.length ≤ 4096 →
  Calls Try.prog 63 #[p, vl] w (ShowP base (showV v xs) w)
theorem ag_below {m : Mp} {base : Nat} {w w' : World} (hm : Ag m w) (hb : ∀ a u, m a = some u → a.block < base) (h : Below base w w') : Ag m w' := fun a u ha => (h.cell (hb a u ha)).trans (hm a u ha)
/-- Where the loop over a value's parts stands. -/
def ShAt (v : Val) (xs : List Int) (j : Nat) (en : Int) (xs' : List Int) : Prop := if en = 1 then showV v xs = showVs (v.args.drop j) xs' else ShIs (showV v xs) en xs'
theorem ShAt.step {v : Val} {xs xs' xs2 : List Int} {j : Nat} {en : Int} (h : ShAt v xs j 1 xs') (hj : j < v.args.length) (hs : ShIs (showV v.args[j] xs') en xs2) : ShAt v xs (j + 1) en xs2 := by
  unfold ShAt at h
  rw [if_pos rfl] at h
  rw [showVs_step hj] at h
  unfold ShAt
  cases hv : showV v.args[j] xs' with
  | inl q =>
    obtain ⟨st, e⟩ := q
    rw [hv] at h hs
    simp only [ShIs] at hs
    rw [if_neg hs.2, h]
    exact hs
  | inr l =>
    rw [hv] at h hs
    simp only [ShIs] at hs
    rw [if_pos hs.1, h, hs.2]
theorem ShAt.done {v : Val} {xs xs' : List Int} {j : Nat} {en : Int} (h : ShAt v xs j en xs') (hj : en = 1 → v.args.length ≤ j) : ShIs (showV v xs) en xs' := by
  unfold ShAt at h
  split at h
  · rename_i e
    rw [h, List.drop_eq_nil_of_le (hj e), showVs]
    exact ⟨e, rfl⟩
  · exact h
set_option maxRecDepth 100000 in
theorem rshow_any {nf : Nat} (v : Val) : RShow nf v := by
  refine Val.ind (P := RShow nf) (fun v ih => ?_) v
  intro m p hr w base vl xs hm hmb hbase ho hx hl
  have IH := Lib.hid ih
  have HO := Lib.hid ho
  have HX := Lib.hid hx
  have HM := Lib.hid hm
  have HMB := Lib.hid hmb
  obtain ⟨i0, hi, hz0, hz1, hz2⟩ := info_parts infoI
  obtain ⟨ao, cap, rfl⟩ := ownsRow_slice ho
  obtain ⟨b, ab, ac, rfl, O⟩ := hr.open
  have HOP := Lib.hid O
  have abd := O.bd
  have ale := O.le
  have inn := O.inn
  have h3 := O.h3
  have HSV := Lib.hid (showV_eq v xs)
  clear hr hx ho hmb ih
  rcases O.hk with hk | hk | hk
  rotate_left
  rotate_left
  · obtain ⟨c0, c1, c2, c3⟩ := O.c3 hk w hm
    have hn := h3 hk
    have inn2 := inn.2
    have HK := Lib.hid hk
    clear h3 O hk hm inn
    go_enter Try.func63, Try.ntmps63
    go_wp2_with fail
    go_ret2
    exact ⟨_, xs, -1, rfl, Below.refl _ _, HO.out, HX.out, hl, by rw [HSV.out, if_pos HK.out]; exact ⟨rfl, by omega⟩⟩
  all_goals
    have hc := (show w.cell? ⟨b, 1, none⟩ = some (.int .i64 v.n) ∧ w.cell? ⟨b, 2, none⟩ = some (.int .i64 0) ∧ w.cell? ⟨b, 3, none⟩ = some (.slice ab v.args.length ac) from by first | exact (O.c1 hk w hm).2 | exact (O.c2 hk w hm).2)
    obtain ⟨c1, c2, c3⟩ := hc
    have HK3 : Hid (¬ v.kind = 3) := Lib.hid (by omega)
    have hbs := hbase
    by_cases hlen : xs.length = 4096
    · have hq : ((xs.length : Int) == 4096) = true := by rw [beq_iff_eq]; omega
      have HLN := Lib.hid hlen
      clear h3 O hk hm inn hlen
      go_enter Try.func63, Try.ntmps63
      go_wp2_with fail
      go_ret2
      exact ⟨_, xs, 4, rfl, Below.refl _ _, HO.out, HX.out, hl, by rw [HSV.out, if_neg HK3.out, if_pos HLN.out]; exact ⟨rfl, by omega⟩⟩
    have hq : ((xs.length : Int) == 4096) = false := by rw [beq_eq_false_iff_ne]; omega
    have HSV2 : Hid (showV v xs = showVs v.args (xs ++ [v.n])) := Lib.hid (by rw [HSV.out, if_neg HK3.out, if_neg hlen])
    have HN := Lib.hid inn
    have hl' : xs.length < 4096 := by omega
    clear h3 O hk hm inn hlen hl
    go_enter Try.func63, Try.ntmps63
    go_wp2_with (at_builtin; refine wpList_push rfl (.tmp 18) (.tmp 23) rfl Try.underlying30 hi hz0 hz1 hz2 (by decide) rfl (HO.out.alloc _) (a := ⟨w.heap.size, 0, none⟩) (c := 1) (y := .int .i64 v.n) rfl (by simp) rfl (by unfold maxLen; omega) (by omega) (by simp; omega) ?_; intro v' w3 hp)
    have HB3 : Hid (Below base w w3) := Lib.hid (((below_box w (.cells #[.int .i64 v.n] 3)).mono hbase).grown hp.gr (by simp; omega) (fun k hk => (HO.out.lt k hk).1))
    have HO3 := Lib.hid hp.own
    have HP3 : Hid (∃ g cap, v' = .slice (some ⟨g, 0, none⟩) (xs.length + 1) cap) := Lib.hid hp.some
    clear hp c1 c2 c3
    go_loopg [1, 6, 7] (v.args.length) (fun g x1 x6 x7 wr => ∃ (j : Nat) (xs' : List Int) (en : Int), j + g = v.args.length ∧ x7 = .int .i64 j ∧ x6 = .int .i64 en ∧ Hid (Below base w wr) ∧ Hid (wr.ownsRow base 3 1 x1 xs'.length (xs'.map (.int .i64))) ∧ Hid (∀ x ∈ xs', I64 x) ∧ xs'.length ≤ 4096 ∧ Hid (ShAt v xs j en xs'))
    case atStart =>
      refine ⟨0, xs ++ [v.n], 1, by omega, rfl, rfl, HB3, Lib.hid (by simpa using HO3.out), Lib.hid (fun x h => ?_), by simp; omega, Lib.hid ?_⟩
      · rcases List.mem_append.1 h with h | h
        · exact HX.out x h
        · simp at h; subst h; exact HN.out
      · unfold ShAt; rw [if_pos rfl, HSV2.out, List.drop_zero]
    case round =>
      obtain ⟨j, xs', en, hj, rfl, rfl, HBr, HOr, HXr, hlr, HSr⟩ := hrel
      have hmr := ag_below HM.out HMB.out HBr.out
      have c3 := (HOP.out.cells wr hmr).2.2.2
      have HMr := Lib.hid hmr
      clear hmr
      by_cases hen : en = 1
      · subst hen
        by_cases hlt : j < v.args.length
        · obtain ⟨c, o, q, rfl, hq2, hcq⟩ := HOP.out.arg j hlt
          have cq := hcq wr HMr.out
          have HC := Lib.hid (IH.out _ (List.getElem_mem hlt) m q hq2 wr base _ xs' HMr.out HMB.out (Nat.le_trans hbs HBr.out.size) HOr.out HXr.out hlr)
          clear hcq hq2
          go_wp2_with (go_at_call 63; refine HC.out.mono ?_; clear HC; rintro e w4 ⟨vl4, xs4, en4, rfl, hb4, ho4, hx4, hl4, hs4⟩)
          go_roundg (v.args.length - (j + 1))
          case measure => omega
          case rel => exact ⟨j + 1, xs4, en4, by omega, by go_num, rfl, Lib.hid (HBr.out.trans hb4), Lib.hid ho4, Lib.hid hx4, hl4, Lib.hid (HSr.out.step hlt hs4)⟩
        · go_wp2_with fail
          go_ret2
          exact ⟨_, xs', 1, rfl, HBr.out, HOr.out, HXr.out, hlr, HSr.out.done (fun _ => by omega)⟩
      · have hqe : (en == 1) = false := by rw [beq_eq_false_iff_ne]; exact hen
        by_cases hlt : j < v.args.length
        all_goals
          go_wp2_with fail
          go_ret2
          exact ⟨_, xs', en, rfl, HBr.out, HOr.out, HXr.out, hlr, HSr.out.done (fun h => absurd h hen)⟩
/-- Which arm a switch takes. -/
def armF (t : Term) (num : Bool) (n : Int) : Int := if num = t.ints then (if 0 ≤ idx t.tags n then idx t.tags n else if t.next.length = t.tags.length + 1 then t.tags.length else -1) else -1
theorem arm_hit {t : Term} {n : Int} {num : Bool} (hn : num = t.ints) {j : Nat} (hj : j < t.tags.length) (h : idx t.tags n = j) : armF t num n = j := by
  unfold armF; rw [if_pos hn, h, if_pos (by omega)]
theorem arm_miss {t : Term} {n : Int} {num : Bool} (hn : num = t.ints) (h : idx t.tags n = -1) : armF t num n = if t.next.length = t.tags.length + 1 then (t.tags.length : Int) else -1 := by
  unfold armF; rw [if_pos hn, h, if_neg (by omega)]
set_option maxRecDepth 100000 in
theorem arm_any {m : Mp} {tb tof : Nat} {t : Term} (hT : TmAt m tb tof t) (num : Bool) (n : Int) (w : World) (hm : Ag m w) :
    Calls Try.prog 62 #[.pointer (some ⟨tb, tof, none⟩), .bool num, .int .i64 n] w fun e w' => e = .returned (.int .i64 (armF t num n)) ∧ ∃ k, w' = w.drewN k := by
  obtain ⟨gb, gc, ab, ac, fb, fc, nb, nc, hr, hcell⟩ := hT
  obtain ⟨_, _, _, _, _, _, _, _, e, O⟩ := hr.opn
  simp only [List.cons.injEq, Value.slice.injEq, and_true, true_and] at e
  obtain ⟨⟨rfl, rfl⟩, ⟨rfl, rfl⟩, ⟨rfl, rfl⟩, rfl, rfl⟩ := e
  have HT := Lib.hid O.tags
  have tl := O.tags.len
  have nl := O.nbd
  obtain ⟨x0, x1, x2, x3, x4, x5, x6, x7⟩ := hcell w hm
  have HM := Lib.hid hm
  clear O hr hcell hm x0 x1 x2 x5 x6
  by_cases hn : num = t.ints
  rotate_left
  · have q1 : (num == t.ints) = false := by rw [beq_eq_false_iff_ne]; exact hn
    have HF : Hid (armF t num n = -1) := Lib.hid (by unfold armF; rw [if_neg hn])
    clear hn x4 x7
    go_enter Try.func62, Try.ntmps62
    go_wp2_with fail
    go_ret
    exact ⟨by rw [HF.out]; rfl, 0, rfl⟩
  have q1 : (num == t.ints) = true := by rw [beq_iff_eq]; exact hn
  have HN := Lib.hid hn
  clear hn
  go_enter Try.func62, Try.ntmps62
  go_wp2_with fail
  go_loop [7] (fun i => ∃ j : Nat, j ≤ t.tags.length ∧ i = .int .i64 j ∧ Hid (idxFrom t.tags n j = idx t.tags n)) (fun i => t.tags.length - (intOf i).toNat)
  case atStart => exact ⟨0, by omega, rfl, Lib.hid (idxFrom_zero _ _)⟩
  case round =>
    obtain ⟨j, hj, rfl, hs⟩ := hrel
    by_cases hlt : j < t.tags.length
    · obtain ⟨base, cap, hv, _, _, hI⟩ := HT.out.open HM.out
      injection hv with e1 e2 e3
      subst e1
      subst e3
      obtain ⟨b1, o1, rfl, hcl⟩ := hI.out j hlt
      have y1 := hcl j hlt
      clear hcl hI
      cases hq : (t.tags[j] == n) with
      | true =>
        have HF : Hid (armF t num n = j) := Lib.hid (arm_hit HN.out hlt (by rw [← hs.out]; exact idxFrom_hit _ _ _ hlt (by rw [beq_iff_eq] at hq ⊢; exact hq.symm)))
        go_wp2_with fail
        go_ret
        exact ⟨by rw [HF.out]; rfl, 0, rfl⟩
      | false =>
        have hs2 : Hid (idxFrom t.tags n (j + 1) = idx t.tags n) := Lib.hid (by rw [← hs.out]; exact (idxFrom_miss _ _ _ hlt (by rw [beq_eq_false_iff_ne] at hq ⊢; exact fun e => hq e.symm)).symm)
        go_wp2_with fail
        go_round
        case rel => exact ⟨j + 1, by omega, by go_num, hs2⟩
        case measure => simp [intOf]; omega
    · have hj' : j = t.tags.length := by omega
      subst hj'
      have HF := Lib.hid (arm_miss HN.out (by rw [← hs.out]; exact idxFrom_end _ _ _ (Nat.le_refl _)))
      by_cases hq : t.next.length = t.tags.length + 1
      · have q2 : ((t.next.length : Int) == (t.tags.length : Int) + 1) = true := by rw [beq_iff_eq]; omega
        rw [if_pos hq] at HF
        clear hq
        go_wp2_with fail
        go_quiet (fail)
        go_wp2_with fail
        go_ret
        exact ⟨by rw [HF.out]; rfl, _, rfl⟩
      · have q2 : ((t.next.length : Int) == (t.tags.length : Int) + 1) = false := by rw [beq_eq_false_iff_ne]; omega
        rw [if_neg hq] at HF
        clear hq
        go_wp2_with fail
        go_quiet (fail)
        go_wp2_with fail
        go_ret
        exact ⟨by rw [HF.out]; rfl, _, rfl⟩
end Go.Proofs.Ytimljadlfhccpaa
