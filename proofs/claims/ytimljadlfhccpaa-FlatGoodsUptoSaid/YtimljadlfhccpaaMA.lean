/- Data of terms, and how they lie in memory. No program in sight. Integers of 31 bits, lists: what the small functions compute. No program in sight. The size of a term. The size of a term, counted down. The small functions: integers of 31 bits, lists of numbers. Functions over lists of numbers. Whether a term is large: some answer. The size of terms, whether they are large. -/
import Derived.Below
import Derived.Carry
import Derived.Test.YtimljadlfhccpaaProg
import Derived.WalkKit
import Derived.WalkLawsBesides
import Derived.Lib.Hide
import Derived.Deep.QuietTactic
import Derived.Deep.LoopGhost
import Derived.BigQuiet
import Derived.Outline
import Derived.StillTailTactics
import Derived.Deep.RegionWith
set_option linter.all false
set_option linter.all false
set_option linter.all false
set_option linter.all false
namespace Go.Proofs.Ytimljadlfhccpaa
open Go.RowKit

structure Atm where
  var : Bool
  n : Int

inductive Term where
  | mk (kind x n : Int) (ints : Bool) (tags : List Int) (args : List Atm) (funs : List (Int × List Int × Term)) (next : List Term)

namespace Term
def kind : Term → Int | mk k _ _ _ _ _ _ _ => k
def x : Term → Int | mk _ x _ _ _ _ _ _ => x
def n : Term → Int | mk _ _ n _ _ _ _ _ => n
def ints : Term → Bool | mk _ _ _ i _ _ _ _ => i
def tags : Term → List Int | mk _ _ _ _ t _ _ _ => t
def args : Term → List Atm | mk _ _ _ _ _ a _ _ => a
def funs : Term → List (Int × List Int × Term) | mk _ _ _ _ _ _ f _ => f
def next : Term → List Term | mk _ _ _ _ _ _ _ n => n
end Term

abbrev Mp := Addr → Option Value
/-- The memory m stands in w. -/
def Ag (m : Mp) (w : World) : Prop := ∀ a v, m a = some v → w.cell? a = some v
def I64 (n : Int) : Prop := -9223372036854775808 ≤ n ∧ n ≤ 9223372036854775807
/-- Cells that lie one behind the other. -/
def Cells (m : Mp) (b o : Nat) (cs : List Value) : Prop := ∀ j v, cs[j]? = some v → m ⟨b, o + j, none⟩ = some v

/-- A slice of n elements, sz cells each: element i's cells are cs i. -/
structure Slc (m : Mp) (sz : Nat) (v : Value) (n : Nat) (cs : Nat → List Value) : Prop where
  isSlice : ∃ base cap, v = .slice base n cap ∧ n ≤ cap ∧ n ≤ 2 ^ 47 ∧ (0 < n → ∃ b o, base = some ⟨b, o, none⟩ ∧ ∀ i, i < n → (cs i).length = sz ∧ Cells m b (o + i * sz) (cs i))

def RInts (m : Mp) (v : Value) (l : List Int) : Prop := Slc m 1 v l.length (fun i => [.int .i64 (l.getD i 0)]) ∧ ∀ x ∈ l, I64 x
def atomCells (a : Atm) : List Value := [.bool a.var, .int .i64 a.n]
def RAtoms (m : Mp) (v : Value) (l : List Atm) : Prop := Slc m 2 v l.length (fun i => atomCells (l.getD i ⟨false, 0⟩)) ∧ ∀ x ∈ l, I64 x.n

inductive RTerm (m : Mp) : List Value → Term → Prop where
  | mk (k x n : Int) (ints : Bool) (tags : List Int) (args : List Atm) (funs : List (Int × List Int × Term)) (next : List Term) (vt va vf vn : Value)
      (cf cn cb : Nat → List Value) (vp : Nat → Value)
      (ik : I64 k) (ix : I64 x) (inn : I64 n) (ht : RInts m vt tags) (ha : RAtoms m va args)
      (hf : Slc m 10 vf funs.length cf) (hn : Slc m 8 vn next.length cn)
      (hc : ∀ i f, funs[i]? = some f → cf i = .int .i64 f.1 :: vp i :: cb i ∧ RInts m (vp i) f.2.1 ∧ I64 f.1)
      (rf : ∀ i f, funs[i]? = some f → RTerm m (cb i) f.2.2)
      (rn : ∀ i t, next[i]? = some t → RTerm m (cn i) t) :
      RTerm m [.int .i64 k, .int .i64 x, .int .i64 n, .bool ints, vt, va, vf, vn] (Term.mk k x n ints tags args funs next)

mutual
def size : Term → Int → Int
  | .mk _ _ _ _ _ _ funs next, n => sizeTs next (sizeFs funs (n + 1))
def sizeFs : List (Int × List Int × Term) → Int → Int
  | [], n => n
  | f :: r, n => if n ≤ 65536 then sizeFs r (size f.2.2 n) else n
def sizeTs : List Term → Int → Int
  | [], n => n
  | t :: r, n => if n ≤ 65536 then sizeTs r (size t n) else n
end

theorem Cells.mono {m m' : Mp} (h : ∀ a v, m a = some v → m' a = some v) {b o cs} (hc : Cells m b o cs) : Cells m' b o cs :=
  fun j v hj => h _ _ (hc j v hj)
theorem Slc.mono {m m' : Mp} (h : ∀ a v, m a = some v → m' a = some v) {sz v n cs} (hs : Slc m sz v n cs) : Slc m' sz v n cs := by
  obtain ⟨base, cap, hv, h1, h2, h3⟩ := hs
  refine ⟨base, cap, hv, h1, h2, fun hn => ?_⟩
  obtain ⟨b, o, hb, hi⟩ := h3 hn
  exact ⟨b, o, hb, fun i hi' => ⟨(hi i hi').1, (hi i hi').2.mono h⟩⟩
theorem RTerm.mono {m m' : Mp} (h : ∀ a v, m a = some v → m' a = some v) {c t} (hr : RTerm m c t) : RTerm m' c t := by
  induction hr with
  | mk k x n ints tags args funs next vt va vf vn cf cn cb vp ik ix inn ht ha hf hn hc rf rn ihf ihn =>
    exact .mk k x n ints tags args funs next vt va vf vn cf cn cb vp ik ix inn ⟨ht.1.mono h, ht.2⟩ ⟨ha.1.mono h, ha.2⟩ (hf.mono h) (hn.mono h) (fun i f hi => ⟨(hc i f hi).1, ⟨(hc i f hi).2.1.1.mono h, (hc i f hi).2.1.2⟩, (hc i f hi).2.2⟩) ihf ihn
theorem RTerm.shape {m : Mp} {c t} (hr : RTerm m c t) : ∃ tb tc ab ac fb fc nb nc, c = [.int .i64 t.kind, .int .i64 t.x, .int .i64 t.n, .bool t.ints, .slice tb t.tags.length tc, .slice ab t.args.length ac, .slice fb t.funs.length fc, .slice nb t.next.length nc] := by
  cases hr with
  | mk k x n ints tags args funs next vt va vf vn cf cn cb vp ik ix inn ht ha hf hn hc rf rn =>
    obtain ⟨⟨tb, tc, rfl, _⟩, _⟩ := ht
    obtain ⟨⟨ab, ac, rfl, _⟩, _⟩ := ha
    obtain ⟨fb, fc, rfl, _⟩ := hf
    obtain ⟨nb, nc, rfl, _⟩ := hn
    exact ⟨tb, tc, ab, ac, fb, fc, nb, nc, rfl⟩
theorem Cells.eight {m : Mp} {w : World} (hm : Ag m w) {b o : Nat} {c0 c1 c2 c3 c4 c5 c6 c7 : Value} (h : Cells m b o [c0, c1, c2, c3, c4, c5, c6, c7]) :
    w.cell? ⟨b, o, none⟩ = some c0 ∧ w.cell? ⟨b, o + 1, none⟩ = some c1 ∧ w.cell? ⟨b, o + 2, none⟩ = some c2 ∧ w.cell? ⟨b, o + 3, none⟩ = some c3 ∧ w.cell? ⟨b, o + 4, none⟩ = some c4 ∧
    w.cell? ⟨b, o + 5, none⟩ = some c5 ∧ w.cell? ⟨b, o + 6, none⟩ = some c6 ∧ w.cell? ⟨b, o + 7, none⟩ = some c7 :=
  ⟨hm _ _ (h 0 _ rfl), hm _ _ (h 1 _ rfl), hm _ _ (h 2 _ rfl), hm _ _ (h 3 _ rfl), hm _ _ (h 4 _ rfl), hm _ _ (h 5 _ rfl), hm _ _ (h 6 _ rfl), hm _ _ (h 7 _ rfl)⟩
theorem Cells.drop {m : Mp} {b o : Nat} {c0 c1 : Value} {cs : List Value} (h : Cells m b o (c0 :: c1 :: cs)) : Cells m b (o + 2) cs :=
  fun j v hj => by have := h (j + 2) v hj; rw [show o + 2 + j = o + (j + 2) from by omega]; exact this
/-- what w holds of m, a later world holds, too -/
theorem agree_below {m : Mp} {w w' : World} (hm : Ag m w) (hb : Below w.heap.size w w') : Ag m w' := by
  intro a v h
  have h1 := hm a v h
  rw [hb.cell]
  · exact h1
  · unfold World.cell? at h1
    split at h1
    · rename_i hh; exact (Array.getElem?_eq_some_iff.1 hh).1
    · cases h1
mutual
theorem size_ge : ∀ (t : Term) (n : Int), n ≤ size t n
  | .mk _ _ _ _ _ _ funs next, n => by
    have h1 := sizeFs_ge funs (n + 1)
    have h2 := sizeTs_ge next (sizeFs funs (n + 1))
    rw [size]; omega
theorem sizeFs_ge : ∀ (l : List (Int × List Int × Term)) (n : Int), n ≤ sizeFs l n
  | [], n => by rw [sizeFs]; omega
  | f :: r, n => by
    rw [sizeFs]
    split
    · have h1 := size_ge f.2.2 n
      have h2 := sizeFs_ge r (size f.2.2 n)
      omega
    · omega
theorem sizeTs_ge : ∀ (l : List Term) (n : Int), n ≤ sizeTs l n
  | [], n => by rw [sizeTs]; omega
  | t :: r, n => by
    rw [sizeTs]
    split
    · have h1 := size_ge t n
      have h2 := sizeTs_ge r (size t n)
      omega
    · omega
end
mutual
theorem size_le : ∀ (t : Term) (n : Int), n ≤ 65536 → size t n ≤ 65537
  | .mk _ _ _ _ _ _ funs next, n, h => by
    rw [size]
    exact sizeTs_le next _ (sizeFs_le funs (n + 1) (by omega))
theorem sizeFs_le : ∀ (l : List (Int × List Int × Term)) (n : Int), n ≤ 65537 → sizeFs l n ≤ 65537
  | [], n, h => by rw [sizeFs]; omega
  | f :: r, n, h => by
    rw [sizeFs]
    split
    · exact sizeFs_le r _ (size_le f.2.2 n (by omega))
    · omega
theorem sizeTs_le : ∀ (l : List Term) (n : Int), n ≤ 65537 → sizeTs l n ≤ 65537
  | [], n, h => by rw [sizeTs]; omega
  | t :: r, n, h => by
    rw [sizeTs]
    split
    · exact sizeTs_le r _ (size_le t n (by omega))
    · omega
end
theorem sizeFs_step (funs : List (Int × List Int × Term)) (j : Nat) (q : Int) (f) (hj : funs[j]? = some f) (hq : q ≤ 65536) : sizeFs (funs.drop j) q = sizeFs (funs.drop (j + 1)) (size f.2.2 q) := by
  obtain ⟨h, rfl⟩ := List.getElem?_eq_some_iff.1 hj
  rw [List.drop_eq_getElem_cons h, sizeFs, if_pos hq]
theorem sizeTs_step (ts : List Term) (j : Nat) (q : Int) (t) (hj : ts[j]? = some t) (hq : q ≤ 65536) : sizeTs (ts.drop j) q = sizeTs (ts.drop (j + 1)) (size t q) := by
  obtain ⟨h, rfl⟩ := List.getElem?_eq_some_iff.1 hj
  rw [List.drop_eq_getElem_cons h, sizeTs, if_pos hq]
theorem sizeFs_done (funs : List (Int × List Int × Term)) (j : Nat) (q : Int) (h : ¬ (j < funs.length ∧ q ≤ 65536)) : sizeFs (funs.drop j) q = q := by
  by_cases hj : j < funs.length
  · rw [List.drop_eq_getElem_cons hj, sizeFs, if_neg (fun hq => h ⟨hj, hq⟩)]
  · rw [List.drop_eq_nil_of_le (by omega), sizeFs]
theorem sizeTs_done (ts : List Term) (j : Nat) (q : Int) (h : ¬ (j < ts.length ∧ q ≤ 65536)) : sizeTs (ts.drop j) q = q := by
  by_cases hj : j < ts.length
  · rw [List.drop_eq_getElem_cons hj, sizeTs, if_neg (fun hq => h ⟨hj, hq⟩)]
  · rw [List.drop_eq_nil_of_le (by omega), sizeTs]
theorem RInts.open {m : Mp} {v : Value} {l : List Int} (h : RInts m v l) {w : World} (hm : Ag m w) : ∃ base cap, v = .slice base l.length cap ∧ l.length ≤ cap ∧ l.length ≤ 140737488355328 ∧
    Hid (∀ i (hi : i < l.length), ∃ b o, base = some ⟨b, o, none⟩ ∧ ∀ j (hj : j < l.length), w.cell? ⟨b, o + j, none⟩ = some (.int .i64 l[j])) := by
  obtain ⟨⟨base, cap, rfl, h1, h2, h3⟩, _⟩ := h
  refine ⟨base, cap, rfl, h1, h2, fun i hi => ?_⟩
  obtain ⟨b, o, hb, hc⟩ := h3 (by omega)
  refine ⟨b, o, hb, fun j hj => ?_⟩
  have := hm _ _ ((hc j hj).2 0 _ rfl)
  simpa [hj] using this
theorem RInts.len {m : Mp} {base : Option Addr} {n cap : Nat} {l : List Int} (h : RInts m (.slice base n cap) l) : l.length ≤ 140737488355328 := by
  obtain ⟨⟨_, _, _, _, h2, _⟩, _⟩ := h; exact h2
theorem RAtoms.len {m : Mp} {base : Option Addr} {n cap : Nat} {l : List Atm} (h : RAtoms m (.slice base n cap) l) : l.length ≤ 140737488355328 := by
  obtain ⟨⟨_, _, _, _, h2, _⟩, _⟩ := h; exact h2
theorem RInts.take {m : Mp} {base : Option Addr} {cap : Nat} {l : List Int} (h : RInts m (.slice base l.length cap) l) (n : Nat) (hn : n ≤ l.length) : RInts m (.slice base n cap) (l.take n) := by
  obtain ⟨⟨base', cap', hv, h1, h2, h3⟩, hw⟩ := h
  injection hv with e1 e2 e3
  subst e1; subst e3
  have hlen : (l.take n).length = n := by rw [List.length_take]; omega
  refine ⟨⟨base, cap, by rw [hlen], by omega, by omega, fun h0 => ?_⟩, fun x hx => hw x (List.mem_of_mem_take hx)⟩
  rw [hlen] at h0 ⊢
  obtain ⟨b, o, hb, hc⟩ := h3 (by omega)
  refine ⟨b, o, hb, fun i hi => ⟨rfl, fun j v hj => (hc i (by omega)).2 j v ?_⟩⟩
  rw [← hj]
  simp [List.getD_eq_getElem?_getD, List.getElem?_take, hi]
theorem Term.ind {P : Term → Prop} (h : ∀ t : Term, (∀ f ∈ t.funs, P f.2.2) → (∀ s ∈ t.next, P s) → P t) : ∀ t, P t
  | .mk k x n i tg a fs ns => by
    refine h _ (fun f hf => ?_) (fun s hs => ?_)
    · have hf' : f ∈ fs := hf
      have h1 := List.sizeOf_lt_of_mem hf'
      have h2 : SizeOf.sizeOf f.2.2 < SizeOf.sizeOf f := by
        obtain ⟨nm, ps, b⟩ := f
        simp
        omega
      exact Term.ind h f.2.2
    · have hs' : s ∈ ns := hs
      have h1 := List.sizeOf_lt_of_mem hs'
      exact Term.ind h s
termination_by t => SizeOf.sizeOf t
decreasing_by all_goals simp_wf; omega
def FunAt (m : Mp) (F : Option Addr) (j : Nat) (f : Int × List Int × Term) : Prop :=
  ∃ b o pb pc tb tc ab ac fb fc nb nc, F = some ⟨b, o, none⟩ ∧ I64 f.1 ∧ RInts m (.slice pb f.2.1.length pc) f.2.1 ∧ RTerm m [.int .i64 f.2.2.kind, .int .i64 f.2.2.x, .int .i64 f.2.2.n, .bool f.2.2.ints, .slice tb f.2.2.tags.length tc, .slice ab f.2.2.args.length ac, .slice fb f.2.2.funs.length fc, .slice nb f.2.2.next.length nc] f.2.2 ∧
    ∀ w, Ag m w → w.cell? ⟨b, o + j * 10, none⟩ = some (.int .i64 f.1) ∧ w.cell? ⟨b, o + j * 10 + 1, none⟩ = some (.slice pb f.2.1.length pc) ∧
      w.cell? ⟨b, o + j * 10 + 2, none⟩ = some (.int .i64 f.2.2.kind) ∧ w.cell? ⟨b, o + j * 10 + 2 + 1, none⟩ = some (.int .i64 f.2.2.x) ∧ w.cell? ⟨b, o + j * 10 + 2 + 2, none⟩ = some (.int .i64 f.2.2.n) ∧ w.cell? ⟨b, o + j * 10 + 2 + 3, none⟩ = some (.bool f.2.2.ints) ∧ w.cell? ⟨b, o + j * 10 + 2 + 4, none⟩ = some (.slice tb f.2.2.tags.length tc) ∧ w.cell? ⟨b, o + j * 10 + 2 + 5, none⟩ = some (.slice ab f.2.2.args.length ac) ∧ w.cell? ⟨b, o + j * 10 + 2 + 6, none⟩ = some (.slice fb f.2.2.funs.length fc) ∧ w.cell? ⟨b, o + j * 10 + 2 + 7, none⟩ = some (.slice nb f.2.2.next.length nc)
def TermAt (m : Mp) (N : Option Addr) (j : Nat) (t : Term) : Prop :=
  ∃ b o tb tc ab ac fb fc nb nc, N = some ⟨b, o, none⟩ ∧ RTerm m [.int .i64 t.kind, .int .i64 t.x, .int .i64 t.n, .bool t.ints, .slice tb t.tags.length tc, .slice ab t.args.length ac, .slice fb t.funs.length fc, .slice nb t.next.length nc] t ∧
    ∀ w, Ag m w → w.cell? ⟨b, o + j * 8, none⟩ = some (.int .i64 t.kind) ∧ w.cell? ⟨b, o + j * 8 + 1, none⟩ = some (.int .i64 t.x) ∧ w.cell? ⟨b, o + j * 8 + 2, none⟩ = some (.int .i64 t.n) ∧ w.cell? ⟨b, o + j * 8 + 3, none⟩ = some (.bool t.ints) ∧ w.cell? ⟨b, o + j * 8 + 4, none⟩ = some (.slice tb t.tags.length tc) ∧ w.cell? ⟨b, o + j * 8 + 5, none⟩ = some (.slice ab t.args.length ac) ∧ w.cell? ⟨b, o + j * 8 + 6, none⟩ = some (.slice fb t.funs.length fc) ∧ w.cell? ⟨b, o + j * 8 + 7, none⟩ = some (.slice nb t.next.length nc)
structure Opn (m : Mp) (t : Term) (tb : Option Addr) (tc : Nat) (ab : Option Addr) (ac : Nat) (fb : Option Addr) (fcap : Nat) (nb : Option Addr) (ncap : Nat) : Prop where
  tags : RInts m (.slice tb t.tags.length tc) t.tags
  args : RAtoms m (.slice ab t.args.length ac) t.args
  ik : I64 t.kind
  ix : I64 t.x
  inn : I64 t.n
  fle : t.funs.length ≤ fcap
  fbd : t.funs.length ≤ 140737488355328
  nle : t.next.length ≤ ncap
  nbd : t.next.length ≤ 140737488355328
  funsAt : ∀ j (hj : j < t.funs.length), FunAt m fb j t.funs[j]
  nextAt : ∀ j (hj : j < t.next.length), TermAt m nb j t.next[j]
theorem RTerm.opn {m : Mp} {c t} (hr : RTerm m c t) : ∃ tb tc ab ac fb fcap nb ncap, c = [.int .i64 t.kind, .int .i64 t.x, .int .i64 t.n, .bool t.ints, .slice tb t.tags.length tc, .slice ab t.args.length ac, .slice fb t.funs.length fcap, .slice nb t.next.length ncap] ∧ Opn m t tb tc ab ac fb fcap nb ncap := by
  cases hr with
  | mk k x n ints tags args funs next vt va vf vn cf cn cb vp ik ix inn ht ha hf hn hc rf rn =>
    obtain ⟨fb, fcap, rfl, f1, f2, f3⟩ := hf
    obtain ⟨nb, ncap, rfl, n1, n2, n3⟩ := hn
    obtain ⟨⟨tb, tc, et, _⟩, _⟩ := id ht
    obtain ⟨⟨ab, ac, ea, _⟩, _⟩ := id ha
    subst et
    subst ea
    refine ⟨tb, tc, ab, ac, fb, fcap, nb, ncap, rfl, ht, ha, ik, ix, inn, f1, f2, n1, n2, fun j hj => ?_, fun j hj => ?_⟩
    · have hj' : j < funs.length := hj
      obtain ⟨b, o, rfl, hi⟩ := f3 (by omega)
      have hg : funs[j]? = some funs[j] := List.getElem?_eq_getElem hj'
      obtain ⟨h1, h2, h3⟩ := hc j _ hg
      have hr' := rf j _ hg
      obtain ⟨tb, tc, ab, ac, fb, fc, nb, nc, e⟩ := hr'.shape
      obtain ⟨⟨pb, pc, ep, _⟩, _⟩ := id h2
      have hcell := (hi j hj').2
      rw [e] at h1 hr'
      rw [h1, ep] at hcell
      rw [ep] at h2
      exact ⟨b, o, pb, pc, tb, tc, ab, ac, fb, fc, nb, nc, rfl, h3, h2, hr', fun w hm => ⟨hm _ _ (hcell 0 _ rfl), hm _ _ (hcell 1 _ rfl), hm _ _ (hcell 2 _ rfl), hm _ _ (hcell 3 _ rfl),
        hm _ _ (hcell 4 _ rfl), hm _ _ (hcell 5 _ rfl), hm _ _ (hcell 6 _ rfl), hm _ _ (hcell 7 _ rfl), hm _ _ (hcell 8 _ rfl), hm _ _ (hcell 9 _ rfl)⟩⟩
    · have hj' : j < next.length := hj
      obtain ⟨b, o, rfl, hi⟩ := n3 (by omega)
      have hg : next[j]? = some next[j] := List.getElem?_eq_getElem hj'
      have hr' := rn j _ hg
      obtain ⟨tb, tc, ab, ac, fb, fc, nb, nc, e⟩ := hr'.shape
      have hcell := (hi j hj').2
      rw [e] at hr'
      rw [e] at hcell
      exact ⟨b, o, tb, tc, ab, ac, fb, fc, nb, nc, rfl, hr', fun w hm => hcell.eight hm⟩
/-- Functions in memory. -/
structure RFuns (m : Mp) (v : Value) (funs : List (Int × List Int × Term)) : Prop where
  ex : ∃ (cf cb : Nat → List Value) (vp : Nat → Value), Slc m 10 v funs.length cf ∧ (∀ i f, funs[i]? = some f → cf i = .int .i64 f.1 :: vp i :: cb i ∧ RInts m (vp i) f.2.1 ∧ I64 f.1) ∧ (∀ i f, funs[i]? = some f → RTerm m (cb i) f.2.2)
theorem RInts.nil (m : Mp) : RInts m (.slice none 0 0) [] := ⟨⟨none, 0, rfl, by simp, by simp, by simp⟩, by simp⟩
theorem RFuns.term {m : Mp} {v : Value} {funs} (h : RFuns m v funs) :
    RTerm m [.int .i64 0, .int .i64 0, .int .i64 0, .bool false, .slice none 0 0, .slice none 0 0, v, .slice none 0 0] (Term.mk 0 0 0 false [] [] funs []) := by
  obtain ⟨cf, cb, vp, h1, h2, h3⟩ := h.ex
  exact .mk 0 0 0 false [] [] funs [] _ _ _ _ cf (fun _ => []) cb vp ⟨by omega, by omega⟩ ⟨by omega, by omega⟩ ⟨by omega, by omega⟩ (RInts.nil m) ⟨⟨none, 0, rfl, by simp, by simp, by simp⟩, by simp⟩ h1 ⟨none, 0, rfl, by simp, by simp, by simp⟩ h2 h3 (by simp)
theorem RFuns.opn {m : Mp} {v : Value} {funs} (h : RFuns m v funs) : ∃ fb fcap, v = .slice fb funs.length fcap ∧ funs.length ≤ fcap ∧ funs.length ≤ 140737488355328 ∧ Hid (∀ j (hj : j < funs.length), FunAt m fb j funs[j]) := by
  obtain ⟨_, _, _, _, fb, fcap, _, _, e, O⟩ := h.term.opn
  simp only [List.cons.injEq] at e
  exact ⟨fb, fcap, e.2.2.2.2.2.2.1, O.fle, O.fbd, O.funsAt⟩
theorem RFuns.of {m : Mp} {c : List Value} {t : Term} (h : RTerm m c t) : RFuns m (c.getD 6 (.bool false)) t.funs := by
  cases h with
  | mk k x n ints tags args funs next vt va vf vn cf cn cb vp ik ix inn ht ha hf hn hc rf rn => exact ⟨cf, cb, vp, hf, hc, rf⟩
/-- A flat program in memory: its two cells. -/
structure Flat where
  funs : List (Int × List Int × Term)
  main : Int
def RFlat (m : Mp) (v : Value) (f : Flat) : Prop := RFuns m v f.funs ∧ I64 f.main
def sumS : List (Int × List Int × Term) → Int → Int
  | [], n => n
  | f :: r, n => if n ≤ 65536 then sumS r (n + size f.2.2 0) else n
def fsize (l : List (Int × List Int × Term)) : Int := if sumS l 0 ≤ 65536 then sumS l 0 else 65537
theorem sumS_step (funs : List (Int × List Int × Term)) (j : Nat) (q : Int) (hj : j < funs.length) (hq : q ≤ 65536) : sumS (funs.drop j) q = sumS (funs.drop (j + 1)) (q + size funs[j].2.2 0) := by
  rw [List.drop_eq_getElem_cons hj, sumS, if_pos hq]
theorem sumS_done (funs : List (Int × List Int × Term)) (j : Nat) (q : Int) (h : ¬ (j < funs.length ∧ q ≤ 65536)) : sumS (funs.drop j) q = q := by
  by_cases hj : j < funs.length
  · rw [List.drop_eq_getElem_cons hj, sumS, if_neg (fun hq => h ⟨hj, hq⟩)]
  · rw [List.drop_eq_nil_of_le (by omega), sumS]
/-- A box of the call's own: block B, which holds these cells. -/
def BoxAt (B : Nat) (w : World) (cs : List Value) : Prop := B < w.heap.size ∧ ∀ j v, cs[j]? = some v → w.cell? ⟨B, j, none⟩ = some v
theorem BoxAt.later {B : Nat} {w w' : World} {cs : List Value} (h : BoxAt B w cs) (hb : Below w.heap.size w w') : BoxAt B w' cs :=
  ⟨Nat.lt_of_lt_of_le h.1 hb.size, fun j v hj => (hb.cell h.1).trans (h.2 j v hj)⟩
theorem BoxAt.new (w : World) (cs : List Value) (t : TypeId) : BoxAt w.heap.size (w.alloc (.cells cs.toArray t)) cs :=
  ⟨by simp, fun j v hj => by rw [World.cell?_alloc_new]; simpa using hj⟩
theorem Ag.later {m : Mp} {w w' : World} (hm : Ag m w) (hb : Below w.heap.size w w') : Ag m w' := agree_below hm hb
theorem Ag.drew {m : Mp} {w : World} (hm : Ag m w) : Ag m w.drew := hm
theorem below_box (w : World) (o : Obj) : Below w.heap.size w (w.alloc o) := (Below.refl _ _).alloc (Nat.le_refl _) _
theorem bgo {w0 w1 w2 : World} (h : Below w0.heap.size w0 w1) (k : Below w1.heap.size w1 w2) : Below w0.heap.size w0 w2 := h.trans (k.mono h.size)
/-- It tells some number; what was there is as it was. -/
def SomeI (w : World) (e : Ending) (w' : World) : Prop := ∃ r, I64 r ∧ e = .returned (.int .i64 r) ∧ Below w.heap.size w w'
def SomeB (w : World) (e : Ending) (w' : World) : Prop := ∃ r : Bool, e = .returned (.bool r) ∧ Below w.heap.size w w'
theorem wrap64_I64 (n : Int) : I64 (wrap64 n) := by unfold wrap64 I64; omega
theorem size_eq (t : Term) (n : Int) : size t n = sizeTs t.next (sizeFs t.funs (n + 1)) := by cases t; rfl
end Go.Proofs.Ytimljadlfhccpaa
namespace Go.Proofs.Ytimljadlfhccpaa
open Go.RowKit

def w31 (n : Int) : Int := (n + 1073741824) % 2147483648 - 1073741824
theorem w31_lo (n : Int) : -1073741824 ≤ w31 n := by unfold w31; omega
theorem w31_hi (n : Int) : w31 n ≤ 1073741823 := by unfold w31; omega
theorem tmod31 (n : Int) : -2147483647 ≤ n.tmod 2147483648 ∧ n.tmod 2147483648 ≤ 2147483647 ∧ ∃ k, n = 2147483648 * k + n.tmod 2147483648 := by
  refine ⟨?_, ?_, n.tdiv 2147483648, by have := Int.mul_tdiv_add_tmod n 2147483648; omega⟩
  · have := Int.tmod_lt_of_pos (-n) (show (0:Int) < 2147483648 by omega); rw [Int.neg_tmod] at this; omega
  · have := Int.tmod_lt_of_pos n (show (0:Int) < 2147483648 by omega); omega
def inB (n : Int) : Bool := decide (-1073741824 ≤ n) && decide (n ≤ 1073741823)
/-- What an operation tells of two numbers. -/
def doOp (op a b : Int) : Option Int :=
  if op = 1 then some (w31 (w31 a + w31 b)) else
  if op = 2 then some (w31 (w31 a - w31 b)) else
  if op = 3 then some (w31 (w31 a * w31 b)) else
  if op = 6 then some (if w31 a < w31 b then 1 else 0) else
  if op = 7 then some (if w31 a = w31 b then 1 else 0) else
  if w31 b = 0 then none else
  if op = 4 then some (w31 ((w31 a).tdiv (w31 b))) else
  if op = 5 then some ((w31 a).tmod (w31 b)) else none
def doVal (op a b : Int) : Value := .tuple #[.int .i64 ((doOp op a b).getD 0), .bool (doOp op a b).isSome]
theorem mul_bd (x y : Int) (h1 : -1073741824 ≤ x) (h2 : x ≤ 1073741823) (h3 : -1073741824 ≤ y) (h4 : y ≤ 1073741823) : -1152921504606846976 ≤ x * y ∧ x * y ≤ 1152921504606846976 := by
  have hx : x.natAbs ≤ 1073741824 := by omega
  have hy : y.natAbs ≤ 1073741824 := by omega
  have h := Nat.mul_le_mul hx hy
  rw [← Int.natAbs_mul] at h
  omega
theorem tdiv_bd (x y : Int) (h1 : -1073741824 ≤ x) (h2 : x ≤ 1073741823) : -1073741824 ≤ x.tdiv y ∧ x.tdiv y ≤ 1073741824 := by
  have h : (x.tdiv y).natAbs ≤ x.natAbs := by rw [Int.natAbs_tdiv]; exact Nat.div_le_self _ _
  omega
theorem rem_eq (x y : Int) (h1 : -1073741824 ≤ x) (h2 : x ≤ 1073741823) (h3 : -1073741824 ≤ y) (h4 : y ≤ 1073741823) (h0 : ¬ y = 0) : w31 (x - w31 (x.tdiv y) * y) = x.tmod y := by
  have hs := Int.mul_tdiv_add_tmod x y
  obtain ⟨d1, d2⟩ := tdiv_bd x y h1 h2
  have hr : (x.tmod y).natAbs ≤ x.natAbs := by rw [Int.natAbs_tmod]; exact Nat.mod_le _ _
  have hr' : (x.tmod y).natAbs < y.natAbs := by rw [Int.natAbs_tmod]; exact Nat.mod_lt _ (by omega)
  by_cases hq : x.tdiv y = 1073741824
  · have hx : x = -1073741824 ∧ y = -1 := by
      have hm : (x.tdiv y).natAbs ≤ x.natAbs / y.natAbs := by rw [Int.natAbs_tdiv]; exact Nat.le_refl _
      rw [hq] at hm
      have hy1 : y.natAbs = 1 := by
        by_cases h2 : 2 ≤ y.natAbs
        · have := Nat.div_le_div_left h2 (by omega) (a := x.natAbs)
          omega
        · omega
      rcases Int.natAbs_eq y with e | e <;> rw [hy1] at e
      · rw [e] at hq; simp at hq; omega
      · have e' : y = -1 := by omega
        rw [e'] at hq
        have : x.tdiv (-1) = -x := by rw [Int.tdiv_neg, Int.tdiv_one]
        omega
    obtain ⟨rfl, rfl⟩ := hx
    decide
  · have e : w31 (x.tdiv y) = x.tdiv y := by unfold w31; omega
    rw [e, Int.mul_comm]
    unfold w31
    omega
theorem doVal_5 (a b : Int) (h0 : ¬ w31 b = 0) : doVal 5 a b = .tuple #[.int .i64 (w31 (w31 a - w31 ((w31 a).tdiv (w31 b)) * w31 b)), .bool true] := by
  rw [rem_eq _ _ (w31_lo a) (w31_hi a) (w31_lo b) (w31_hi b) h0]
  simp [doVal, doOp, h0]
theorem doVal_no (op a b : Int) (h1 : ¬ op = 1) (h2 : ¬ op = 2) (h3 : ¬ op = 3) (h6 : ¬ op = 6) (h7 : ¬ op = 7) (h : w31 b = 0 ∨ (¬ op = 4 ∧ ¬ op = 5)) : doVal op a b = .tuple #[.int .i64 0, .bool false] := by
  unfold doVal doOp
  rw [if_neg h1, if_neg h2, if_neg h3, if_neg h6, if_neg h7]
  rcases h with h | ⟨h4, h5⟩
  · rw [if_pos h]; rfl
  · rw [if_neg h4, if_neg h5]; split <;> rfl
/-- The place of a number in a list, or -1. -/
def idx : List Int → Int → Int
  | [], _ => -1
  | x :: r, n => if x = n then 0 else (let k := idx r n; if k < 0 then -1 else k + 1)
def onceB : List Int → Bool
  | [] => true
  | x :: r => !r.contains x && onceB r
def tagsB (l : List Int) (ints : Bool) : Bool := l.all (fun n => if ints then inB n else decide (0 ≤ n) && decide (n ≤ 31)) && (decide (l.length ≤ 65536) && onceB l)
def bindsB (k : Int) : Bool := k == 1 || k == 2 || k == 3 || k == 9 || k == 10
end Go.Proofs.Ytimljadlfhccpaa
namespace Go.Proofs.Ytimljadlfhccpaa
open Go.RowKit
set_option maxHeartbeats 400000

set_option maxRecDepth 100000 in
theorem size_any {m : Mp} {c : List Value} {t : Term} (hr : RTerm m c t) : ∀ (n : Int) (w : World), Ag m w → 0 ≤ n → n ≤ 65536 →
    Calls Try.prog 28 #[.agg c.toArray, .int .i64 n] w fun e w' => e = .returned (.int .i64 (size t n)) ∧ Below w.heap.size w w' := by
  induction hr with
  | mk k x nn ints tags args funs next vt va vf vn cf cn cb vp ik ix inn ht ha hf hn hc rf rn ihf ihn =>
  intro n w hm h0 h1
  have Hm := Lib.hid hm
  have hfin : Hid (size (Term.mk k x nn ints tags args funs next) n = sizeTs next (sizeFs funs (n + 1))) := Lib.hid (by rw [size])
  obtain ⟨fb, fcap, rfl, hf1, hf2, hf3⟩ := hf
  obtain ⟨nb, ncap, rfl, hn1, hn2, hn3⟩ := hn
  have Hf3 := Lib.hid hf3
  have Hn3 := Lib.hid hn3
  have Hc := Lib.hid hc
  have Ihf := Lib.hid ihf
  have Ihn := Lib.hid ihn
  have Rf := Lib.hid rf
  have Rn := Lib.hid rn
  clear ht ha ihf ihn rf rn hc hf3 hn3 hm
  go_enter Try.func28, Try.ntmps28
  go_wp2_with fail
  go_loopg [1, 5] (funs.length) (fun g n1 i wr => ∃ (j : Nat) (q : Int), j + g = funs.length ∧ i = .int .i64 j ∧ n1 = .int .i64 q ∧ 0 ≤ q ∧ q ≤ 65537 ∧ Hid (sizeFs (funs.drop j) q = sizeFs funs (n + 1)) ∧ Below w.heap.size w wr ∧ w.heap.size < wr.heap.size ∧ wr.cell? ⟨w.heap.size, 6, none⟩ = some (.slice fb funs.length fcap) ∧ wr.cell? ⟨w.heap.size, 7, none⟩ = some (.slice nb next.length ncap))
  case atStart => exact ⟨0, _, by omega, rfl, rfl, by omega, by omega, Lib.hid rfl, (Below.refl _ _).alloc (Nat.le_refl _) _, by simp, by simp [go_sem], by simp [go_sem]⟩
  case round =>
    obtain ⟨j, q, hj, rfl, rfl, hq0, hq1, hrem, hbel, hsz, c6, c7⟩ := hrel
    by_cases hlt : j < funs.length ∧ q ≤ 65536
    · obtain ⟨hlt, hq⟩ := hlt
      obtain ⟨b, o, rfl, hi⟩ := Hf3.out (by omega)
      have hm := agree_below Hm.out hbel
      have hcj := (Hc.out j funs[j] (List.getElem?_eq_getElem hlt)).1
      have hcells := (hi j hlt).2
      rw [hcj] at hcells
      have ih := Ihf.out j funs[j] (List.getElem?_eq_getElem hlt)
      obtain ⟨tb', tc', ab', ac', fb', fc', nb', nc', hcb⟩ := (Rf.out j funs[j] (List.getElem?_eq_getElem hlt)).shape
      rw [hcb] at hcells ih
      obtain ⟨e0, e1, e2, e3, e4, e5, e6, e7⟩ := (Cells.drop hcells).eight hm
      have Ih := Lib.hid (ih q wr hm hq0 hq)
      have hge := size_ge funs[j].2.2 q
      have hle := size_le funs[j].2.2 q hq
      have hst := Lib.hid (sizeFs_step funs j q funs[j] (List.getElem?_eq_getElem hlt) hq)
      clear ih hcells hcb hcj hm hi
      go_wp2_with (go_at_call 28; refine Ih.out.mono ?_; rintro e w1 ⟨rfl, hb1⟩)
      go_roundg (funs.length - (j + 1))
      case measure => omega
      case rel => exact ⟨j + 1, _, by omega, by go_num, rfl, by omega, by omega, Lib.hid (by rw [← hrem.out, hst.out]), hbel.trans (hb1.mono (by omega)), by have := hb1.size; omega, (hb1.cell (by simpa using hsz)).trans c6, (hb1.cell (by simpa using hsz)).trans c7⟩
    · have hd := sizeFs_done funs j q hlt
      have Hq : Hid (sizeFs funs (n + 1) = q) := Lib.hid (by rw [← hrem.out, hd])
      clear hrem hd
      by_cases hlt' : j < funs.length
      all_goals
        try (have hq' : 65536 < q := by omega)
        clear hlt
        go_wp2_with fail
        go_loopg [1, 6] (next.length) (fun g n1 i wr => ∃ (j : Nat) (q : Int), j + g = next.length ∧ i = .int .i64 j ∧ n1 = .int .i64 q ∧ 0 ≤ q ∧ q ≤ 65537 ∧ Hid (sizeTs (next.drop j) q = size (Term.mk k x nn ints tags args funs next) n) ∧ Below w.heap.size w wr ∧ w.heap.size < wr.heap.size ∧ wr.cell? ⟨w.heap.size, 7, none⟩ = some (.slice nb next.length ncap))
        case atStart => exact ⟨0, _, by omega, rfl, rfl, by omega, by omega, Lib.hid (by rw [hfin.out, Hq.out]; rfl), hbel, hsz, c7⟩
        case round =>
          clear hbel hsz c6 c7
          obtain ⟨j, q, hj, rfl, rfl, hq0, hq1, hrem, hbel, hsz, c7⟩ := hrel
          by_cases hlt : j < next.length ∧ q ≤ 65536
          · obtain ⟨hlt, hq⟩ := hlt
            obtain ⟨b, o, rfl, hi⟩ := Hn3.out (by omega)
            have hm := agree_below Hm.out hbel
            have hcells := (hi j hlt).2
            have ih := Ihn.out j next[j] (List.getElem?_eq_getElem hlt)
            obtain ⟨tb', tc', ab', ac', fb', fc', nb', nc', hcb⟩ := (Rn.out j next[j] (List.getElem?_eq_getElem hlt)).shape
            rw [hcb] at hcells ih
            obtain ⟨e0, e1, e2, e3, e4, e5, e6, e7⟩ := hcells.eight hm
            have Ih := Lib.hid (ih q wr hm hq0 hq)
            have hge := size_ge next[j] q
            have hle := size_le next[j] q hq
            have hst := Lib.hid (sizeTs_step next j q next[j] (List.getElem?_eq_getElem hlt) hq)
            clear ih hcells hcb hm hi
            go_wp2_with (go_at_call 28; refine Ih.out.mono ?_; rintro e w1 ⟨rfl, hb1⟩)
            go_roundg (next.length - (j + 1))
            case measure => omega
            case rel => exact ⟨j + 1, _, by omega, by go_num, rfl, by omega, by omega, Lib.hid (by rw [← hrem.out, hst.out]), hbel.trans (hb1.mono (by omega)), by have := hb1.size; omega, (hb1.cell (by simpa using hsz)).trans c7⟩
          · have hd := sizeTs_done next j q hlt
            have Hq : Hid (size (Term.mk k x nn ints tags args funs next) n = q) := Lib.hid (by rw [← hrem.out, hd])
            clear hrem hd
            by_cases hlt' : j < next.length
            all_goals
              try (have hq' : 65536 < q := by omega)
              clear hlt
              go_wp2_with fail
              go_ret
              exact ⟨by rw [Hq.out]; rfl, hbel⟩
end Go.Proofs.Ytimljadlfhccpaa
namespace Go.Proofs.Ytimljadlfhccpaa
open Go.RowKit
set_option maxHeartbeats 400000

set_option maxRecDepth 100000 in
theorem sized_any {m : Mp} {c : List Value} {t : Term} (hr : RTerm m c t) : ∀ (n : Int) (w : World), Ag m w → 0 ≤ n → n ≤ 65536 →
    Calls Try.prog 45 #[.agg c.toArray, .int .i64 (65536 - n)] w fun e w' => e = .returned (.int .i64 (65536 - size t n)) ∧ Below w.heap.size w w' := by
  induction hr with
  | mk k x nn ints tags args funs next vt va vf vn cf cn cb vp ik ix inn ht ha hf hn hc rf rn ihf ihn =>
  intro n w hm h0 h1
  have Hm := Lib.hid hm
  have hfin : Hid (size (Term.mk k x nn ints tags args funs next) n = sizeTs next (sizeFs funs (n + 1))) := Lib.hid (by rw [size])
  obtain ⟨fb, fcap, rfl, hf1, hf2, hf3⟩ := hf
  obtain ⟨nb, ncap, rfl, hn1, hn2, hn3⟩ := hn
  have Hf3 := Lib.hid hf3
  have Hn3 := Lib.hid hn3
  have Hc := Lib.hid hc
  have Ihf := Lib.hid ihf
  have Ihn := Lib.hid ihn
  have Rf := Lib.hid rf
  have Rn := Lib.hid rn
  clear ht ha ihf ihn rf rn hc hf3 hn3 hm
  go_enter Try.func45, Try.ntmps45
  go_wp2_with fail
  go_loopg [1, 5] (funs.length) (fun g n1 i wr => ∃ (j : Nat) (q : Int), j + g = funs.length ∧ i = .int .i64 j ∧ n1 = .int .i64 (65536 - q) ∧ 0 ≤ q ∧ q ≤ 65537 ∧ Hid (sizeFs (funs.drop j) q = sizeFs funs (n + 1)) ∧ Below w.heap.size w wr ∧ w.heap.size < wr.heap.size ∧ wr.cell? ⟨w.heap.size, 6, none⟩ = some (.slice fb funs.length fcap) ∧ wr.cell? ⟨w.heap.size, 7, none⟩ = some (.slice nb next.length ncap))
  case atStart => exact ⟨0, n + 1, by omega, rfl, by go_num, by omega, by omega, Lib.hid rfl, (Below.refl _ _).alloc (Nat.le_refl _) _, by simp, by simp [go_sem], by simp [go_sem]⟩
  case round =>
    obtain ⟨j, q, hj, rfl, rfl, hq0, hq1, hrem, hbel, hsz, c6, c7⟩ := hrel
    by_cases hlt : j < funs.length ∧ q ≤ 65536
    · obtain ⟨hlt, hq⟩ := hlt
      obtain ⟨b, o, rfl, hi⟩ := Hf3.out (by omega)
      have hm := agree_below Hm.out hbel
      have hcj := (Hc.out j funs[j] (List.getElem?_eq_getElem hlt)).1
      have hcells := (hi j hlt).2
      rw [hcj] at hcells
      have ih := Ihf.out j funs[j] (List.getElem?_eq_getElem hlt)
      obtain ⟨tb', tc', ab', ac', fb', fc', nb', nc', hcb⟩ := (Rf.out j funs[j] (List.getElem?_eq_getElem hlt)).shape
      rw [hcb] at hcells ih
      obtain ⟨e0, e1, e2, e3, e4, e5, e6, e7⟩ := (Cells.drop hcells).eight hm
      have Ih := Lib.hid (ih q wr hm hq0 hq)
      have hge := size_ge funs[j].2.2 q
      have hle := size_le funs[j].2.2 q hq
      have hst := Lib.hid (sizeFs_step funs j q funs[j] (List.getElem?_eq_getElem hlt) hq)
      clear ih hcells hcb hcj hm hi
      go_wp2_with (go_at_call 45; refine Ih.out.mono ?_; rintro e w1 ⟨rfl, hb1⟩)
      go_roundg (funs.length - (j + 1))
      case measure => omega
      case rel => exact ⟨j + 1, _, by omega, by go_num, rfl, by omega, by omega, Lib.hid (by rw [← hrem.out, hst.out]), hbel.trans (hb1.mono (by omega)), by have := hb1.size; omega, (hb1.cell (by simpa using hsz)).trans c6, (hb1.cell (by simpa using hsz)).trans c7⟩
    · have hd := sizeFs_done funs j q hlt
      have Hq : Hid (sizeFs funs (n + 1) = q) := Lib.hid (by rw [← hrem.out, hd])
      clear hrem hd
      by_cases hlt' : j < funs.length
      all_goals
        try (have hq' : 65536 < q := by omega)
        clear hlt
        go_wp2_with fail
        go_loopg [1, 6] (next.length) (fun g n1 i wr => ∃ (j : Nat) (q : Int), j + g = next.length ∧ i = .int .i64 j ∧ n1 = .int .i64 (65536 - q) ∧ 0 ≤ q ∧ q ≤ 65537 ∧ Hid (sizeTs (next.drop j) q = size (Term.mk k x nn ints tags args funs next) n) ∧ Below w.heap.size w wr ∧ w.heap.size < wr.heap.size ∧ wr.cell? ⟨w.heap.size, 7, none⟩ = some (.slice nb next.length ncap))
        case atStart => exact ⟨0, _, by omega, rfl, rfl, by omega, by omega, Lib.hid (by rw [hfin.out, Hq.out]; rfl), hbel, hsz, c7⟩
        case round =>
          clear hbel hsz c6 c7
          obtain ⟨j, q, hj, rfl, rfl, hq0, hq1, hrem, hbel, hsz, c7⟩ := hrel
          by_cases hlt : j < next.length ∧ q ≤ 65536
          · obtain ⟨hlt, hq⟩ := hlt
            obtain ⟨b, o, rfl, hi⟩ := Hn3.out (by omega)
            have hm := agree_below Hm.out hbel
            have hcells := (hi j hlt).2
            have ih := Ihn.out j next[j] (List.getElem?_eq_getElem hlt)
            obtain ⟨tb', tc', ab', ac', fb', fc', nb', nc', hcb⟩ := (Rn.out j next[j] (List.getElem?_eq_getElem hlt)).shape
            rw [hcb] at hcells ih
            obtain ⟨e0, e1, e2, e3, e4, e5, e6, e7⟩ := hcells.eight hm
            have Ih := Lib.hid (ih q wr hm hq0 hq)
            have hge := size_ge next[j] q
            have hle := size_le next[j] q hq
            have hst := Lib.hid (sizeTs_step next j q next[j] (List.getElem?_eq_getElem hlt) hq)
            clear ih hcells hcb hm hi
            go_wp2_with (go_at_call 45; refine Ih.out.mono ?_; rintro e w1 ⟨rfl, hb1⟩)
            go_roundg (next.length - (j + 1))
            case measure => omega
            case rel => exact ⟨j + 1, _, by omega, by go_num, rfl, by omega, by omega, Lib.hid (by rw [← hrem.out, hst.out]), hbel.trans (hb1.mono (by omega)), by have := hb1.size; omega, (hb1.cell (by simpa using hsz)).trans c7⟩
          · have hd := sizeTs_done next j q hlt
            have Hq : Hid (size (Term.mk k x nn ints tags args funs next) n = q) := Lib.hid (by rw [← hrem.out, hd])
            clear hrem hd
            by_cases hlt' : j < next.length
            all_goals
              try (have hq' : 65536 < q := by omega)
              clear hlt
              go_wp2_with fail
              go_ret
              exact ⟨by rw [Hq.out]; rfl, hbel⟩
end Go.Proofs.Ytimljadlfhccpaa
namespace Go.Proofs.Ytimljadlfhccpaa
open Go.RowKit
set_option maxHeartbeats 400000

theorem rWrap (n : Int) (w : World) (h1 : -9223372036854775808 ≤ n) (h2 : n ≤ 9223372036854775807) :
    Calls Try.prog 34 #[.int .i64 n] w fun e w' => e = .returned (.int .i64 (w31 n)) ∧ w = w' := by
  obtain ⟨t1, t2, t3⟩ := tmod31 n
  have T3 := Lib.hid t3; clear t3
  go_enter Try.func34, Try.ntmps34
  go_wp2
  all_goals go_ret
  all_goals obtain ⟨k, hk⟩ := T3.out
  all_goals exact ⟨congrArg (fun x => Ending.returned (.int .i64 x)) (by unfold w31; omega), rfl⟩
theorem iIn (n : Int) (w : World) : Calls Try.prog 39 #[.int .i64 n] w fun e w' => e = .returned (.bool (inB n)) ∧ w = w' := by
  go_enter Try.func39, Try.ntmps39
  go_wp2
  all_goals go_ret
  all_goals exact ⟨congrArg (fun x => Ending.returned (.bool x)) (by rw [Bool.eq_iff_iff]; unfold inB; simp <;> omega), rfl⟩
theorem rIn (n : Int) (w : World) : Calls Try.prog 43 #[.int .i64 n] w fun e w' => e = .returned (.bool (inB n)) ∧ w = w' := by
  go_enter Try.func43, Try.ntmps43
  go_wp2
  all_goals go_ret
  all_goals exact ⟨congrArg (fun x => Ending.returned (.bool x)) (by rw [Bool.eq_iff_iff]; unfold inB; simp <;> omega), rfl⟩
theorem rDo (op a b : Int) (w : World) (ha : I64 a) (hb : I64 b) :
    Calls Try.prog 61 #[.int .i64 op, .int .i64 a, .int .i64 b] w fun e w' => e = .returned (doVal op a b) ∧ w = w' := by
  have a1 := w31_lo a; have a2 := w31_hi a; have b1 := w31_lo b; have b2 := w31_hi b
  obtain ⟨m1, m2⟩ := mul_bd _ _ a1 a2 b1 b2
  obtain ⟨d1, d2⟩ := tdiv_bd _ (w31 b) a1 a2
  obtain ⟨m3, m4⟩ := mul_bd _ _ (w31_lo ((w31 a).tdiv (w31 b))) (w31_hi _) b1 b2
  unfold I64 at ha hb
  obtain ⟨ha1, ha2⟩ := ha; obtain ⟨hb1, hb2⟩ := hb
  by_cases h1 : op = 1
  · subst h1
    go_enter Try.func61, Try.ntmps61
    go_wp2_with (go_at_call 34; refine (rWrap _ _ (by omega) (by omega)).mono ?_; rintro e w' ⟨rfl, rfl⟩)
    all_goals go_ret2
    all_goals exact ⟨by first | (simp [doVal, doOp, *]; done) | simp_all [doVal, doOp], rfl⟩
  · skip
    by_cases h2 : op = 2
    · subst h2
      go_enter Try.func61, Try.ntmps61
      go_wp2_with (go_at_call 34; refine (rWrap _ _ (by omega) (by omega)).mono ?_; rintro e w' ⟨rfl, rfl⟩)
      all_goals go_ret2
      all_goals exact ⟨by first | (simp [doVal, doOp, *]; done) | simp_all [doVal, doOp], rfl⟩
    · skip
      by_cases h3 : op = 3
      · subst h3
        go_enter Try.func61, Try.ntmps61
        go_wp2_with (go_at_call 34; refine (rWrap _ _ (by omega) (by omega)).mono ?_; rintro e w' ⟨rfl, rfl⟩)
        all_goals go_ret2
        all_goals exact ⟨by first | (simp [doVal, doOp, *]; done) | simp_all [doVal, doOp], rfl⟩
      · skip
        by_cases h6 : op = 6
        · subst h6
          go_enter Try.func61, Try.ntmps61
          go_wp2_with (go_at_call 34; refine (rWrap _ _ (by omega) (by omega)).mono ?_; rintro e w' ⟨rfl, rfl⟩)
          all_goals go_ret2
          all_goals exact ⟨by first | (simp [doVal, doOp, *]; done) | simp_all [doVal, doOp], rfl⟩
        · skip
          by_cases h7 : op = 7
          · subst h7
            go_enter Try.func61, Try.ntmps61
            go_wp2_with (go_at_call 34; refine (rWrap _ _ (by omega) (by omega)).mono ?_; rintro e w' ⟨rfl, rfl⟩)
            all_goals go_ret2
            all_goals exact ⟨by first | (simp [doVal, doOp, *]; done) | simp_all [doVal, doOp], rfl⟩
          · skip
            by_cases hz : w31 b = 0
            · have H := Lib.hid (doVal_no op a b h1 h2 h3 h6 h7 (Or.inl hz))
              by_cases h4 : op = 4
              · subst h4
                go_enter Try.func61, Try.ntmps61
                go_wp2_with (go_at_call 34; refine (rWrap _ _ (by omega) (by omega)).mono ?_; rintro e w' ⟨rfl, rfl⟩)
                all_goals go_ret2
                all_goals exact ⟨by first | (rw [H.out]; rfl) | (exfalso; simp_all), rfl⟩
              · by_cases h5 : op = 5
                · subst h5
                  go_enter Try.func61, Try.ntmps61
                  go_wp2_with (go_at_call 34; refine (rWrap _ _ (by omega) (by omega)).mono ?_; rintro e w' ⟨rfl, rfl⟩)
                  all_goals go_ret2
                  all_goals exact ⟨by first | (rw [H.out]; rfl) | (exfalso; simp_all), rfl⟩
                · skip
                  go_enter Try.func61, Try.ntmps61
                  go_wp2_with (go_at_call 34; refine (rWrap _ _ (by omega) (by omega)).mono ?_; rintro e w' ⟨rfl, rfl⟩)
                  all_goals go_ret2
                  all_goals exact ⟨by first | (rw [H.out]; rfl) | (exfalso; simp_all), rfl⟩
            · by_cases h4 : op = 4
              · subst h4
                go_enter Try.func61, Try.ntmps61
                go_wp2_with (go_at_call 34; refine (rWrap _ _ (by omega) (by omega)).mono ?_; rintro e w' ⟨rfl, rfl⟩)
                all_goals go_ret2
                all_goals exact ⟨by first | (simp [doVal, doOp, *]; done) | simp_all [doVal, doOp], rfl⟩
              · by_cases h5 : op = 5
                · subst h5
                  have H5 := Lib.hid (doVal_5 a b hz)
                  go_enter Try.func61, Try.ntmps61
                  go_wp2_with (go_at_call 34; refine (rWrap _ _ (by omega) (by omega)).mono ?_; rintro e w' ⟨rfl, rfl⟩)
                  all_goals go_ret2
                  all_goals exact ⟨by rw [H5.out]; rfl, rfl⟩
                · have H := Lib.hid (doVal_no op a b h1 h2 h3 h6 h7 (Or.inr ⟨h4, h5⟩))
                  have q4 : (op != 4) = true := by simpa using h4
                  have q5 : (op != 5) = true := by simpa using h5
                  go_enter Try.func61, Try.ntmps61
                  go_wp2_with (go_at_call 34; refine (rWrap _ _ (by omega) (by omega)).mono ?_; rintro e w' ⟨rfl, rfl⟩)
                  all_goals go_ret2
                  all_goals exact ⟨by first | (rw [H.out]; rfl) | (exfalso; simp_all), rfl⟩
end Go.Proofs.Ytimljadlfhccpaa
namespace Go.Proofs.Ytimljadlfhccpaa
open Go.RowKit
set_option maxHeartbeats 400000

/-- The lists are alike from here on. -/
def sameFrom (a b : List Int) (i : Nat) : Bool := decide (a.drop i = b.drop i)
theorem sameFrom_end (a b : List Int) (i : Nat) (h : a.length = b.length) (hi : a.length ≤ i) : sameFrom a b i = true := by
  simp [sameFrom, List.drop_eq_nil_of_le, hi, h ▸ hi]
theorem sameFrom_step (a b : List Int) (i : Nat) (ha : i < a.length) (hb : i < b.length) : sameFrom a b i = (a[i] == b[i] && sameFrom a b (i + 1)) := by
  rw [sameFrom, List.drop_eq_getElem_cons ha, List.drop_eq_getElem_cons hb, Bool.eq_iff_iff, decide_eq_true_iff, List.cons.injEq]; simp [sameFrom]
theorem kSame {m : Mp} {va vb : Value} {a b : List Int} (ha : RInts m va a) (hb : RInts m vb b) (w : World) (hm : Ag m w) :
    Calls Try.prog 46 #[va, vb] w fun e w' => e = .returned (.bool (decide (a = b))) ∧ ∃ n, w' = w.drewN n := by
  obtain ⟨ab, acap, rfl, a1, a2, A3⟩ := ha.open hm
  obtain ⟨bb, bcap, rfl, b1, b2, B3⟩ := hb.open hm
  clear ha hb
  by_cases hl : a.length = b.length
  · have hb0 : ((a.length : Int) != b.length) = false := by rw [bne_eq_false_iff_eq]; omega
    have HL := Lib.hid hl; clear hl
    go_enter Try.func46, Try.ntmps46
    go_wp2_with fail
    go_loopg [5] (a.length) (fun g i wr => ∃ j : Nat, j + g = a.length ∧ i = .int .i64 j ∧ Hid (decide (a = b) = sameFrom a b j) ∧ ∃ n, wr = w.drewN n)
    case atStart => exact ⟨0, by omega, rfl, Lib.hid (by simp [sameFrom]), 0, rfl⟩
    case round =>
      obtain ⟨j, hj, rfl, hs, nd, rfl⟩ := hrel
      by_cases hlt : j < a.length
      · obtain ⟨ba, oa, rfl, ca⟩ := A3.out j hlt
        obtain ⟨bo, ob, rfl, cb⟩ := B3.out j (by have := HL.out; omega)
        have ea := ca j hlt
        have eb := cb j (by have := HL.out; omega)
        have hjb : j < b.length := by have := HL.out; omega
        have st := Lib.hid (sameFrom_step a b j hlt hjb)
        clear ca cb
        go_wp2_with fail
        go_quiet (fail)
        go_wp2_with fail
        · go_ret
          exact ⟨by rw [hs.out, st.out, show (a[j] == b[j]) = false by simpa using ‹(a[j] != b[j]) = true›]; rfl, _, World.drewN_drewN _ _ _⟩
        · go_roundg (a.length - (j + 1))
          case measure => omega
          case rel => exact ⟨j + 1, by omega, by go_num, Lib.hid (by rw [hs.out, st.out, show (a[j] == b[j]) = true by simpa using ‹(a[j] != b[j]) = false›]; simp), _, rfl⟩
      · go_wp2_with fail
        go_ret
        exact ⟨by rw [hs.out, sameFrom_end a b j HL.out (by omega)]; rfl, nd, rfl⟩
  · have hb0 : ((a.length : Int) != b.length) = true := by rw [bne_iff_ne]; omega
    go_enter Try.func46, Try.ntmps46
    go_wp2_with fail
    go_ret
    exact ⟨by rw [decide_eq_false (fun h => hl (by rw [h]))]; rfl, 0, rfl⟩

theorem idx_lt (l : List Int) (n : Int) : idx l n < l.length := by
  induction l with
  | nil => simp [idx]
  | cons x r ih => simp only [idx]; split <;> (try split) <;> simp <;> omega
theorem idx_ge (l : List Int) (n : Int) : -1 ≤ idx l n := by
  induction l with
  | nil => simp [idx]
  | cons x r ih => simp only [idx]; split <;> (try split) <;> omega
/-- The place from i on, or -1. -/
def idxFrom (l : List Int) (n : Int) (i : Nat) : Int := if idx (l.drop i) n < 0 then -1 else idx (l.drop i) n + i
theorem idxFrom_zero (l n) : idxFrom l n 0 = idx l n := by have := idx_ge l n; simp only [idxFrom, List.drop_zero]; split <;> omega
theorem idxFrom_end (l n) (i : Nat) (h : l.length ≤ i) : idxFrom l n i = -1 := by simp [idxFrom, List.drop_eq_nil_of_le h, idx]
theorem idxFrom_hit (l n) (i : Nat) (hi : i < l.length) (h : (n == l[i]) = true) : idxFrom l n i = i := by
  have h' : l[i] = n := (beq_iff_eq.1 h).symm
  simp [idxFrom, List.drop_eq_getElem_cons hi, idx, h']
theorem idxFrom_miss (l n) (i : Nat) (hi : i < l.length) (h : (n == l[i]) = false) : idxFrom l n i = idxFrom l n (i + 1) := by
  have h' : ¬ l[i] = n := fun e => by rw [e] at h; simp at h
  have := idx_ge (l.drop (i + 1)) n
  simp only [idxFrom, List.drop_eq_getElem_cons hi, idx, if_neg h']
  split <;> split <;> simp_all <;> omega
theorem onceB_iff (l : List Int) : onceB l = true ↔ l.Nodup := by
  induction l with
  | nil => simp [onceB]
  | cons y r ih => simp [onceB, ih]
theorem onceB_snoc (l : List Int) (x : Int) : onceB (l ++ [x]) = (onceB l && !l.contains x) := by
  rw [Bool.eq_iff_iff, onceB_iff, Bool.and_eq_true, onceB_iff, List.nodup_append]
  simp
  intro _
  constructor
  · intro h hx; exact h x hx rfl
  · intro h y hy e; exact h (e ▸ hy)
theorem once_any {m : Mp} {va : Value} {a : List Int} (ha : RInts m va a) (w : World) (hm : Ag m w) :
    Calls Try.prog 79 #[va] w fun e w' => e = .returned (.bool (onceB a)) ∧ ∃ n, w' = w.drewN n := by
  obtain ⟨ab, acap, rfl, a1, a2, A3⟩ := ha.open hm
  clear ha
  go_enter Try.func79, Try.ntmps79
  go_wp2_with fail
  go_loopg [3, 4] (a.length) (fun g i _ wr => ∃ j : Nat, j + g = a.length ∧ i = .int .i64 j ∧ Hid (onceB (a.take j) = true) ∧ ∃ n, wr = w.drewN n)
  case atStart => exact ⟨0, by omega, rfl, Lib.hid rfl, 0, rfl⟩
  case round =>
    obtain ⟨j, hj, rfl, hs, nd, rfl⟩ := hrel
    by_cases hlt : j < a.length
    · obtain ⟨ba, oa, rfl, ca⟩ := A3.out j hlt
      have CA := Lib.hid ca
      have ea := ca j hlt
      clear ca
      go_wp2_with fail
      go_loopg [4] j (fun g i wr => ∃ k : Nat, k + g = j ∧ i = .int .i64 k ∧ Hid ((a.take k).contains a[j] = false) ∧ ∃ n, wr = w.drewN n)
      case atStart => exact ⟨0, by omega, rfl, Lib.hid rfl, nd, rfl⟩
      case round =>
        obtain ⟨k, hk, rfl, hc, nd, rfl⟩ := hrel
        by_cases hlt' : k < j
        · have ek := CA.out k (by omega)
          have hka : k < a.length := by omega
          cases hb : (a[k] == a[j]) with
          | true =>
            have Hb := Lib.hid hb
            go_wp2_with fail
            go_quiet (fail)
            go_wp2_with fail
            go_ret
            refine ⟨congrArg (fun x => Ending.returned (.bool x)) ?_, _, World.drewN_drewN _ _ _⟩
            symm
            rw [← Bool.not_eq_true]
            intro h
            have hnd := (onceB_iff a).1 h
            exact (List.pairwise_iff_getElem.1 hnd) k j hka hlt hlt' (by simpa [Hid] using Hb)
          | false =>
            have Hb := Lib.hid hb
            go_wp2_with fail
            go_quiet (fail)
            go_wp2_with fail
            go_roundg (j - (k + 1))
            case measure => omega
            case rel => exact ⟨k + 1, by omega, by go_num, Lib.hid (by rw [List.take_succ_eq_append_getElem hka, List.contains_append, hc.out]; simp; intro h; have hb' := Hb.out; rw [h] at hb'; simp at hb'), _, rfl⟩
        · have hkj : k = j := by omega
          have Hkj := Lib.hid hkj; clear hkj
          go_wp2_with fail
          go_roundg (a.length - (j + 1))
          case measure => omega
          case rel => exact ⟨j + 1, by omega, by go_num, Lib.hid (by have := hc.out; rw [Hkj.out] at this; rw [List.take_succ_eq_append_getElem hlt, onceB_snoc, hs.out, this]; rfl), _, rfl⟩
    · have hs' := hs.out
      rw [List.take_of_length_le (by omega)] at hs'
      have HS := Lib.hid hs'; clear hs' hs
      go_wp2_with fail
      go_ret
      exact ⟨by rw [HS.out]; rfl, nd, rfl⟩

theorem tags_any {m : Mp} {va : Value} {a : List Int} (ha : RInts m va a) (ib : Bool) (w : World) (hm : Ag m w) :
    Calls Try.prog 67 #[va, .bool ib] w fun e w' => e = .returned (.bool (tagsB a ib)) ∧ ∃ n, w' = w.drewN n := by
  have HA := Lib.hid ha
  have HH := Lib.hid hm
  obtain ⟨ab, acap, rfl, a1, a2, A3⟩ := ha.open hm
  clear ha hm
  go_enter Try.func67, Try.ntmps67
  go_wp2_with fail
  go_loopg [5] (a.length) (fun g i wr => ∃ j : Nat, j + g = a.length ∧ i = .int .i64 j ∧ Hid ((a.take j).all (fun n => if ib then inB n else decide (0 ≤ n) && decide (n ≤ 31)) = true) ∧ wr = w)
  case atStart => exact ⟨0, by omega, rfl, Lib.hid rfl, rfl⟩
  case round =>
    obtain ⟨j, hj, rfl, hs, rfl⟩ := hrel
    by_cases hlt : j < a.length
    · obtain ⟨ba, oa, rfl, ca⟩ := A3.out j hlt
      have ea := ca j hlt
      clear ca
      have bad : Hid ((if ib then inB a[j] else decide (0 ≤ a[j]) && decide (a[j] ≤ 31)) = false → tagsB a ib = false) := Lib.hid (fun h => by
        rw [tagsB, Bool.and_eq_false_iff]; left
        rw [List.all_eq_false]; exact ⟨a[j], List.getElem_mem hlt, fun e => Bool.false_ne_true (h.symm.trans e)⟩)
      have good : Hid ((if ib then inB a[j] else decide (0 ≤ a[j]) && decide (a[j] ≤ 31)) = true → (a.take (j + 1)).all (fun n => if ib then inB n else decide (0 ≤ n) && decide (n ≤ 31)) = true) := Lib.hid (fun h => by
        rw [List.take_succ_eq_append_getElem hlt, List.all_append, hs.out]; simpa using h)
      cases ib with
      | true =>
        cases hi : inB a[j] with
        | true =>
          go_wp2_with (go_at_call 43; refine (rIn _ _).mono ?_; rintro e w' ⟨rfl, rfl⟩)
          go_roundg (a.length - (j + 1))
          case measure => omega
          case rel => exact ⟨j + 1, by omega, by go_num, Lib.hid (good.out (by simpa using hi)), rfl⟩
        | false =>
          go_wp2_with (go_at_call 43; refine (rIn _ _).mono ?_; rintro e w' ⟨rfl, rfl⟩)
          go_ret
          exact ⟨by rw [bad.out (by simpa using hi)]; rfl, 0, rfl⟩
      | false =>
        by_cases h0 : 0 ≤ a[j] ∧ a[j] ≤ 31
        · obtain ⟨h0, h1⟩ := h0
          go_wp2_with fail
          go_roundg (a.length - (j + 1))
          case measure => omega
          case rel => exact ⟨j + 1, by omega, by go_num, Lib.hid (good.out (by simp [*])), rfl⟩
        · by_cases h1 : 0 ≤ a[j]
          all_goals
            go_wp2_with fail
            go_ret
            exact ⟨by rw [bad.out (by simp; omega)]; rfl, 0, rfl⟩
    · have hs' := hs.out
      rw [List.take_of_length_le (by omega)] at hs'
      by_cases hl : a.length ≤ 65536
      · have HS : Hid (tagsB a ib = onceB a) := Lib.hid (by rw [tagsB, hs', decide_eq_true hl]; rfl)
        clear hs' hs
        go_wp2_with (go_at_call 79; refine (once_any HA.out _ HH.out).mono ?_; rintro e w' ⟨rfl, n, rfl⟩)
        go_ret
        exact ⟨by rw [HS.out]; rfl, n, rfl⟩
      · have HS : Hid (tagsB a ib = false) := Lib.hid (by rw [tagsB, hs', decide_eq_false hl]; rfl)
        clear hs' hs
        go_wp2_with fail
        go_ret
        exact ⟨by rw [HS.out]; rfl, 0, rfl⟩
end Go.Proofs.Ytimljadlfhccpaa
namespace Go.Proofs.Ytimljadlfhccpaa
open Go.RowKit
set_option maxHeartbeats 1000000

set_option maxRecDepth 100000 in
theorem weigh_any (t : Term) : ∀ (m : Mp) (c : List Value) (_ : RTerm m c t) (deep n : Int) (w : World), Ag m w → I64 deep → I64 n →
    Calls Try.prog 27 #[.agg c.toArray, .int .i64 deep, .int .i64 n] w (SomeI w) := by
  induction t using Term.ind with
  | h t ihf ihn =>
  intro m c hr deep n w hm hd hn
  obtain ⟨tb, tcap, ab, acap, fb, fcap, nb, ncap, rfl, O⟩ := hr.opn
  have OO := Lib.hid O
  have Ihf := Lib.hid ihf
  have Ihn := Lib.hid ihn
  have Hm := Lib.hid hm
  have t2 := O.tags.len
  have a2 := O.args.len
  have hfb := O.fbd
  have hnb := O.nbd
  clear ihf ihn hr O hm
  go_enter Try.func27, Try.ntmps27
  have hi1 := wrap64_I64 (n + (1 + (t.args.length + t.tags.length + t.funs.length + t.next.length : Int) / 10))
  go_wp2_with fail
  · go_ret
    exact ⟨-1, by unfold I64; omega, rfl, below_box _ _⟩
  · go_loopg [2, 7] (t.funs.length) (fun g n1 i wr => ∃ (j : Nat) (q : Int), j + g = t.funs.length ∧ i = .int .i64 j ∧ n1 = .int .i64 q ∧ I64 q ∧ Below w.heap.size w wr ∧ w.heap.size < wr.heap.size ∧ wr.cell? ⟨w.heap.size, 6, none⟩ = some (.slice fb t.funs.length fcap) ∧ wr.cell? ⟨w.heap.size, 7, none⟩ = some (.slice nb t.next.length ncap))
    case atStart => exact ⟨0, _, by omega, rfl, rfl, hi1, below_box _ _, by simp, by simp [go_sem], by simp [go_sem]⟩
    case round =>
      obtain ⟨j, q, hj, rfl, rfl, hq, hbel, hsz, c6, c7⟩ := hrel
      have Hq := Lib.hid hq; clear hq
      by_cases hlt : j < t.funs.length
      · by_cases hq : 0 ≤ q
        · obtain ⟨b, o, pb', pc', tb', tc', ab', ac', fb', fc', nb', nc', rfl, ik, hp, hr, hcell⟩ := OO.out.funsAt j hlt
          have hm := Hm.out.later hbel
          obtain ⟨k0, k1, e0, e1, e2, e3, e4, e5, e6, e7⟩ := hcell _ hm
          have p2 := hp.len
          have Ih := Lib.hid (Ihf.out _ (List.getElem_mem hlt) m _ hr)
          have HM := Lib.hid hm
          have hd1 := wrap64_I64 (deep + 1)
          have hn1 := wrap64_I64 (q + t.funs[j].2.1.length / 10)
          clear hr hcell hp ik hm
          go_wp2_with fail
          go_still_tail 18, (by kernel_rfl)
          go_wp2_with (go_at_call 27; refine (Ih.out _ _ _ HM.out.drew hd1 hn1).mono ?_; rintro e w1 ⟨r, hr1, rfl, hb1⟩)
          go_roundg (t.funs.length - (j + 1))
          case measure => omega
          case rel => exact ⟨j + 1, r, by omega, by go_num, rfl, hr1, bgo hbel.drew hb1, by have := hb1.size; simp at this; omega, (hb1.cell (by simpa using hsz)).trans c6, (hb1.cell (by simpa using hsz)).trans c7⟩
        · skip
          go_wp2_with fail
          go_loopg [2, 8] (t.next.length) (fun g n1 i wr => ∃ (j : Nat) (q : Int), j + g = t.next.length ∧ i = .int .i64 j ∧ n1 = .int .i64 q ∧ I64 q ∧ Below w.heap.size w wr ∧ w.heap.size < wr.heap.size ∧ wr.cell? ⟨w.heap.size, 7, none⟩ = some (.slice nb t.next.length ncap))
          case atStart => exact ⟨0, _, by omega, rfl, rfl, Hq.out, hbel, hsz, c7⟩
          case round =>
            clear hbel hsz c6 c7 Hq
            obtain ⟨j, q, hj, rfl, rfl, hq, hbel, hsz, c7⟩ := hrel
            have Hq := Lib.hid hq; clear hq
            by_cases hlt : j < t.next.length
            · by_cases hq : 0 ≤ q
              · obtain ⟨b, o, tb', tc', ab', ac', fb', fc', nb', nc', rfl, hr, hcell⟩ := OO.out.nextAt j hlt
                have hm := Hm.out.later hbel
                obtain ⟨e0, e1, e2, e3, e4, e5, e6, e7⟩ := hcell _ hm
                have Ih := Lib.hid (Ihn.out _ (List.getElem_mem hlt) m _ hr)
                have HM := Lib.hid hm
                have hd1 := wrap64_I64 (deep + 1)
                clear hr hcell hm
                go_wp2_with (go_at_call 27; refine (Ih.out _ _ _ HM.out hd1 Hq.out).mono ?_; rintro e w1 ⟨r, hr1, rfl, hb1⟩)
                go_roundg (t.next.length - (j + 1))
                case measure => omega
                case rel => exact ⟨j + 1, r, by omega, by go_num, rfl, hr1, bgo hbel hb1, by have := hb1.size; omega, (hb1.cell (by simpa using hsz)).trans c7⟩
              · go_wp2_with fail
                go_ret
                exact ⟨q, Hq.out, rfl, hbel⟩
            · go_wp2_with fail
              go_ret
              exact ⟨q, Hq.out, rfl, hbel⟩
      · skip
        go_wp2_with fail
        go_loopg [2, 8] (t.next.length) (fun g n1 i wr => ∃ (j : Nat) (q : Int), j + g = t.next.length ∧ i = .int .i64 j ∧ n1 = .int .i64 q ∧ I64 q ∧ Below w.heap.size w wr ∧ w.heap.size < wr.heap.size ∧ wr.cell? ⟨w.heap.size, 7, none⟩ = some (.slice nb t.next.length ncap))
        case atStart => exact ⟨0, _, by omega, rfl, rfl, Hq.out, hbel, hsz, c7⟩
        case round =>
          clear hbel hsz c6 c7 Hq
          obtain ⟨j, q, hj, rfl, rfl, hq, hbel, hsz, c7⟩ := hrel
          have Hq := Lib.hid hq; clear hq
          by_cases hlt : j < t.next.length
          · by_cases hq : 0 ≤ q
            · obtain ⟨b, o, tb', tc', ab', ac', fb', fc', nb', nc', rfl, hr, hcell⟩ := OO.out.nextAt j hlt
              have hm := Hm.out.later hbel
              obtain ⟨e0, e1, e2, e3, e4, e5, e6, e7⟩ := hcell _ hm
              have Ih := Lib.hid (Ihn.out _ (List.getElem_mem hlt) m _ hr)
              have HM := Lib.hid hm
              have hd1 := wrap64_I64 (deep + 1)
              clear hr hcell hm
              go_wp2_with (go_at_call 27; refine (Ih.out _ _ _ HM.out hd1 Hq.out).mono ?_; rintro e w1 ⟨r, hr1, rfl, hb1⟩)
              go_roundg (t.next.length - (j + 1))
              case measure => omega
              case rel => exact ⟨j + 1, r, by omega, by go_num, rfl, hr1, bgo hbel hb1, by have := hb1.size; omega, (hb1.cell (by simpa using hsz)).trans c7⟩
            · go_wp2_with fail
              go_ret
              exact ⟨q, Hq.out, rfl, hbel⟩
          · go_wp2_with fail
            go_ret
            exact ⟨q, Hq.out, rfl, hbel⟩
  · go_ret
    exact ⟨-1, by unfold I64; omega, rfl, below_box _ _⟩
end Go.Proofs.Ytimljadlfhccpaa
namespace Go.Proofs.Ytimljadlfhccpaa
open Go.RowKit
set_option maxHeartbeats 400000

theorem rSize {m : Mp} {c : List Value} {t : Term} (hr : RTerm m c t) (w : World) (hm : Ag m w) :
    Calls Try.prog 14 #[.agg c.toArray] w fun e w' => e = .returned (.int .i64 (size t 0)) ∧ Below w.heap.size w w' := by
  obtain ⟨tb, tc, ab, ac, fb, fc, nb, nc, rfl⟩ := hr.shape
  have H := Lib.hid hr
  have HM := Lib.hid (fun o => hm.later (below_box w o))
  have h1 := size_le t 0 (by omega)
  clear hr hm
  go_enter Try.func14, Try.ntmps14
  go_wp2_with (go_at_call 28; refine (size_any H.out 0 _ (HM.out _) (by omega) (by omega)).mono ?_; rintro e w1 ⟨rfl, hb1⟩)
  go_ret
  refine ⟨?_, ((Below.refl _ _).alloc (Nat.le_refl _) _).trans (hb1.mono (by simp))⟩
  rfl

theorem cSize {m : Mp} {c : List Value} {t : Term} (hr : RTerm m c t) (w : World) (hm : Ag m w) :
    Calls Try.prog 25 #[.agg c.toArray] w fun e w' => e = .returned (.int .i64 (size t 0)) ∧ Below w.heap.size w w' := by
  obtain ⟨tb, tc, ab, ac, fb, fc, nb, nc, rfl⟩ := hr.shape
  have H := Lib.hid hr
  have HM := Lib.hid (fun o => hm.later (below_box w o))
  have h1 := size_le t 0 (by omega)
  have h2 := size_ge t 0
  have Hs := Lib.hid (fun o => sized_any H.out 0 _ (HM.out o) (by omega) (by omega))
  clear hr hm
  go_enter Try.func25, Try.ntmps25
  go_wp2_with (go_at_call 45; refine (Hs.out _).mono ?_; rintro e w1 ⟨rfl, hb1⟩)
  all_goals
    go_ret
    exact ⟨congrArg (fun x => Ending.returned (.int .i64 x)) (by omega), bgo (below_box _ _) hb1⟩
theorem large22 {m : Mp} {c : List Value} {t : Term} (hr : RTerm m c t) (w : World) (hm : Ag m w) : Calls Try.prog 13 #[.agg c.toArray] w (SomeB w) := by
  obtain ⟨tb, tc, ab, ac, fb, fc, nb, nc, rfl⟩ := hr.shape
  have H := Lib.hid hr
  have HM := Lib.hid (fun o => hm.later (below_box w o))
  clear hr hm
  go_enter Try.func13, Try.ntmps13
  go_wp2_with (go_at_call 27; refine (weigh_any _ _ _ H.out _ _ _ (HM.out _) ⟨by omega, by omega⟩ ⟨by omega, by omega⟩).mono ?_; rintro e w1 ⟨r, hr1, rfl, hb1⟩)
  go_ret
  exact ⟨_, rfl, bgo (below_box _ _) hb1⟩
theorem large25 {m : Mp} {v : Value} {f : Flat} (hr : RFlat m v f) (w : World) (hm : Ag m w) : Calls Try.prog 5 #[.agg #[v, .int .i64 f.main]] w (SomeB w) := by
  obtain ⟨fb, fcap, rfl, f1, f2, F3⟩ := hr.1.opn
  have H := Lib.hid hr.1.term
  have HM := Lib.hid (hm.later (below_box w (.cells #[.slice fb f.funs.length fcap, .int .i64 f.main] 24)))
  clear hr hm
  by_cases hl : 5000 < f.funs.length
  · go_enter Try.func5, Try.ntmps5
    go_wp2_with fail
    go_ret
    exact ⟨_, rfl, below_box _ _⟩
  · go_enter Try.func5, Try.ntmps5
    go_wp2_with (go_at_call 13; refine (large22 H.out _ HM.out).mono ?_; rintro e w1 ⟨r, rfl, hb1⟩)
    go_ret
    exact ⟨_, rfl, bgo (below_box _ _) hb1⟩
theorem r25Size {m : Mp} {v : Value} {f : Flat} (hr : RFlat m v f) (w : World) (hm : Ag m w) :
    Calls Try.prog 11 #[.agg #[v, .int .i64 f.main]] w fun e w' => e = .returned (.int .i64 (fsize f.funs)) ∧ Below w.heap.size w w' := by
  obtain ⟨fb, fcap, rfl, f1, f2, F3⟩ := hr.1.opn
  have Hm := Lib.hid hm
  clear hr hm
  go_enter Try.func11, Try.ntmps11
  go_wp2_with fail
  go_loopg [3, 4] (f.funs.length) (fun g n1 i wr => ∃ (j : Nat) (q : Int), j + g = f.funs.length ∧ i = .int .i64 j ∧ n1 = .int .i64 q ∧ 0 ≤ q ∧ q ≤ 140000 ∧ Hid (sumS (f.funs.drop j) q = sumS f.funs 0) ∧ Below w.heap.size w wr ∧ w.heap.size < wr.heap.size ∧ wr.cell? ⟨w.heap.size, 0, none⟩ = some (.slice fb f.funs.length fcap))
  case atStart => exact ⟨0, 0, by omega, rfl, rfl, by omega, by omega, Lib.hid rfl, below_box _ _, by simp, by simp [go_sem]⟩
  case round =>
    obtain ⟨j, q, hj, rfl, rfl, hq0, hq1, hrem, hbel, hsz, c0⟩ := hrel
    by_cases hlt : j < f.funs.length ∧ q ≤ 65536
    · obtain ⟨hlt, hq⟩ := hlt
      obtain ⟨b, o, pb', pc', tb', tc', ab', ac', fb', fc', nb', nc', rfl, ik, hp, hr, hcell⟩ := F3.out j hlt
      have hm := Hm.out.later hbel
      obtain ⟨k0, k1, e0, e1, e2, e3, e4, e5, e6, e7⟩ := hcell _ hm
      have Ih := Lib.hid (rSize hr wr hm)
      have h1 := size_le f.funs[j].2.2 0 (by omega)
      have h2 := size_ge f.funs[j].2.2 0
      have hst := Lib.hid (sumS_step f.funs j q hlt hq)
      clear hr hcell hp ik hm k0 k1
      go_wp2_with (go_at_call 14; refine Ih.out.mono ?_; rintro e w1 ⟨rfl, hb1⟩)
      go_roundg (f.funs.length - (j + 1))
      case measure => omega
      case rel => exact ⟨j + 1, _, by omega, by go_num, rfl, by omega, by omega, Lib.hid (by rw [← hrem.out, hst.out]), bgo hbel hb1, by have := hb1.size; omega, (hb1.cell (by simpa using hsz)).trans c0⟩
    · have hd := sumS_done f.funs j q hlt
      have Hq : Hid (sumS f.funs 0 = q) := Lib.hid (by rw [← hrem.out, hd])
      clear hrem hd
      by_cases hlt' : j < f.funs.length
      all_goals
        try (have hq' : 65536 < q := by omega)
        clear hlt
        go_wp2_with fail
        all_goals go_ret
        all_goals exact ⟨congrArg (fun x => Ending.returned (.int .i64 x)) (by unfold fsize; rw [Hq.out]; first | omega | (split <;> omega) | (split <;> split <;> omega)), hbel⟩
theorem flat7 {w : World} {b o : Nat} {v1 v2 v3 v4 v5 v6 v7 : Value} (e1 : w.cell? ⟨b, o + 2 + 1, none⟩ = some v1) (e2 : w.cell? ⟨b, o + 2 + 2, none⟩ = some v2) (e3 : w.cell? ⟨b, o + 2 + 3, none⟩ = some v3) (e4 : w.cell? ⟨b, o + 2 + 4, none⟩ = some v4)
    (e5 : w.cell? ⟨b, o + 2 + 5, none⟩ = some v5) (e6 : w.cell? ⟨b, o + 2 + 6, none⟩ = some v6) (e7 : w.cell? ⟨b, o + 2 + 7, none⟩ = some v7) :
    w.cell? ⟨b, o + 3, none⟩ = some v1 ∧ w.cell? ⟨b, o + 4, none⟩ = some v2 ∧ w.cell? ⟨b, o + 5, none⟩ = some v3 ∧ w.cell? ⟨b, o + 6, none⟩ = some v4 ∧ w.cell? ⟨b, o + 7, none⟩ = some v5 ∧ w.cell? ⟨b, o + 8, none⟩ = some v6 ∧ w.cell? ⟨b, o + 9, none⟩ = some v7 :=
  ⟨e1, e2, e3, e4, e5, e6, e7⟩
theorem flSize {m : Mp} {v : Value} {f : Flat} (hr : RFlat m v f) (w : World) (hm : Ag m w) :
    Calls Try.prog 10 #[.agg #[v, .int .i64 f.main]] w fun e w' => e = .returned (.int .i64 (fsize f.funs)) ∧ Below w.heap.size w w' := by
  obtain ⟨fb, fcap, rfl, f1, f2, F3⟩ := hr.1.opn
  have Hm := Lib.hid hm
  clear hr hm
  go_enter Try.func10, Try.ntmps10
  go_wp2_with fail
  go_loopg [3, 9] (f.funs.length) (fun g n1 i wr => ∃ (j : Nat) (q : Int), j + g = f.funs.length ∧ i = .int .i64 j ∧ n1 = .int .i64 q ∧ 0 ≤ q ∧ q ≤ 65536 ∧ Hid (sumS (f.funs.drop j) q = sumS f.funs 0) ∧ Below w.heap.size w wr)
  case atStart => exact ⟨0, 0, by omega, rfl, rfl, by omega, by omega, Lib.hid rfl, below_box _ _⟩
  case round =>
    obtain ⟨j, q, hj, rfl, rfl, hq0, hq1, hrem, hbel⟩ := hrel
    by_cases hlt : j < f.funs.length
    · obtain ⟨b, o, pb', pc', tb', tc', ab', ac', fb', fc', nb', nc', rfl, ik, hp, hr, hcell⟩ := F3.out j hlt
      have hm := Hm.out.later hbel
      obtain ⟨k0, k1, e0, e1, e2, e3, e4, e5, e6, e7⟩ := hcell _ hm
      have HM := Lib.hid hm
      have HR := Lib.hid hr
      have h1 := size_le f.funs[j].2.2 0 (by omega)
      have h2 := size_ge f.funs[j].2.2 0
      have hst := Lib.hid (sumS_step f.funs j q hlt hq1)
      clear hr hcell hp ik hm
      obtain ⟨g1, g2, g3, g4, g5, g6, g7⟩ := flat7 e1 e2 e3 e4 e5 e6 e7
      clear e1 e2 e3 e4 e5 e6 e7
      go_wp2_with (go_at_call 25; refine (cSize HR.out _ (HM.out.later (below_box _ _))).mono ?_; rintro e w1 ⟨rfl, hb1⟩)
      · go_ret
        exact ⟨congrArg (fun x => Ending.returned (.int .i64 x)) (by unfold fsize; rw [← hrem.out, hst.out, sumS_done _ _ _ (by omega), if_neg (by omega)]), bgo (bgo hbel (below_box _ _)) hb1⟩
      · go_roundg (f.funs.length - (j + 1))
        case measure => omega
        case rel => exact ⟨j + 1, _, by omega, by go_num, rfl, by omega, by omega, Lib.hid (by rw [← hrem.out, hst.out]), bgo (bgo hbel (below_box _ _)) hb1⟩
    · have hd := sumS_done f.funs j q (fun h => hlt h.1)
      have Hq : Hid (sumS f.funs 0 = q) := Lib.hid (by rw [← hrem.out, hd])
      clear hrem hd
      go_wp2_with fail
      go_ret
      exact ⟨congrArg (fun x => Ending.returned (.int .i64 x)) (by unfold fsize; rw [Hq.out]; first | omega | (split <;> omega)), hbel⟩
end Go.Proofs.Ytimljadlfhccpaa
