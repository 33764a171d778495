/- What comes in, opened: a flat program, lists of numbers. -/
import Derived.Test.YtimljadlfhccpaaProg
import Derived.Test.YtimljadlfhccpaaRows
import Derived.Test.YtimljadlfhccpaaMCp
import Derived.ProofKit
import Derived.OpenShut
import Derived.JoinedCond
import Derived.Deep.Slices
import Derived.Lib.SmallJoins
set_option linter.all false
set_option linter.all false
set_option linter.all false
set_option linter.all false
namespace Go.Proofs.Ytimljadlfhccpaa
open Go.ChangeShapes Go.WideShapes Go.ChangeAt Go.RowKit

theorem one_le {H : Type} (d : DataW H) : 1 ≤ Rows.uptoBulk d := by
  cases d with
  | lit l => cases l <;> simp [Rows.uptoBulk]
  | nil => simp [Rows.uptoBulk]
  | ptr d => simp [Rows.uptoBulk]
  | slice elems spare => simp [Rows.uptoBulk]
  | agg parts => simp [Rows.uptoBulk]
  | iface t d => simp [Rows.uptoBulk]
  | map entries => simp [Rows.uptoBulk]
  | held h => simp [Rows.uptoBulk]
theorem part_le {H : Type} {d : DataW H} {l : List (DataW H)} (h : d ∈ l) : Rows.uptoBulk d ≤ Rows.uptoBulkAll l := by
  induction l with
  | nil => cases h
  | cons x r ih =>
    simp only [Rows.uptoBulkAll]
    cases List.mem_cons.1 h with
    | inl e => subst e; omega
    | inr e => have := ih e; omega
theorem length_le {H : Type} (l : List (DataW H)) : l.length ≤ Rows.uptoBulkAll l := by
  induction l with
  | nil => simp [Rows.uptoBulkAll]
  | cons x r ih => have := one_le x; simp only [Rows.uptoBulkAll, List.length_cons]; omega
section
variable {H : Type} {enc : TypeId × Value → H} {w : World} {base : Nat} {spare : Nat → Bool} {held : Bool}
/-- All that is in w. -/
def wm (w : World) : Mp := fun a => w.cell? a
theorem wm_ag (w : World) : Ag (wm w) w := fun _ _ h => h
theorem rd_fields {t : TypeId} {fs : Array Field} {fuel : Nat} {cs : List Value} {x : DataW H × List MemPlace} (hs : Try.prog.underlying t = some (.struct fs)) (h : DataW.trod enc Try.prog w base spare held fuel t cs = some x) {N : Nat} (hb : Rows.uptoBulk x.1 ≤ N + 1) :
    ∃ m, cs.length = Try.prog.cellsOf t ∧ ∀ (i : Nat) (f : Field), fs[i]? = some f → ∃ y, DataW.trod enc Try.prog w base spare held m f.type ((cs.drop f.offset).take (Try.prog.cellsOf f.type)) = some y ∧ Rows.uptoBulk y.1 ≤ N := by
  obtain ⟨xs, m, _, rfl, hl, hxl, hf⟩ := DataW.trod_struct hs h
  refine ⟨m, hl, fun i f hi => ?_⟩
  have hlt : i < xs.length := by rw [hxl]; exact (Array.getElem?_eq_some_iff.1 hi).1
  refine ⟨xs[i], by rw [hf i f hi, List.getElem?_eq_getElem hlt], ?_⟩
  have hm : xs[i].1 ∈ xs.map (·.1) := List.mem_map.2 ⟨_, List.getElem_mem hlt, rfl⟩
  have := part_le hm
  simp only [Rows.uptoBulk] at hb
  omega
theorem rd_slice {t e : TypeId} {sz fuel : Nat} {cs : List Value} {x : DataW H × List MemPlace} (ht : Try.prog.underlying t = some (.slice e)) (hsz : Try.prog.cellsOf e = sz) (h0 : 0 < sz) (h : DataW.trod enc Try.prog w base spare held fuel t cs = some x) {N : Nat} (hb : Rows.uptoBulk x.1 ≤ N + 1) (hN : N ≤ 2097152) :
    ∃ (n k : Nat) (v : Value) (C : Nat → List Value), cs = [v] ∧ n ≤ N ∧ Slc (wm w) sz v n C ∧ ∀ i, i < n → ∃ y, DataW.trod enc Try.prog w base spare held k e (C i) = some y ∧ Rows.uptoBulk y.1 ≤ N := by
  rcases Go.Deep.open_slice ht h with ⟨rfl, rfl⟩ | ⟨a, len, cap, m, n, D, Pl, rfl, hba, hlc, hcap, hm, rfl, hel⟩
  · exact ⟨0, 0, _, fun _ => [], rfl, Nat.zero_le _, ⟨none, 0, rfl, by simp, by simp, by simp⟩, fun i hi => absurd hi (Nat.not_lt_zero _)⟩
  · have hlm : len ≤ m := by rw [hm]; split <;> omega
    have hel' : ∀ i, ∃ cs', i < len → (w.cells? base (a.add (i * sz)) sz = some cs' ∧ DataW.trod enc Try.prog w base spare held n e cs' = some (D i, Pl i)) := fun i => by
      by_cases hi : i < len
      · obtain ⟨cs', h1, h2⟩ := hel i (by omega)
        rw [hsz] at h1
        exact ⟨cs', fun _ => ⟨h1, h2⟩⟩
      · exact ⟨[], fun h => absurd h hi⟩
    obtain ⟨C, hC⟩ := Classical.skolem.1 hel'
    have hbl : len ≤ N := by
      have := length_le ((List.range len).map D)
      simp only [Rows.uptoBulk, List.length_map, List.length_range] at hb this
      omega
    refine ⟨len, n, _, C, rfl, hbl, ⟨some a, cap, rfl, hlc, by omega, fun hpos => ?_⟩, fun i hi => ⟨_, (hC i hi).2, ?_⟩⟩
    · obtain ⟨b, off, spot⟩ := a
      have c0 := (World.cells?_some (hC 0 hpos).1).2
      have hspot : spot = none := by
        have h1 := c0.2 0 h0
        have hlen : 0 < (C 0).length := by rw [c0.1]; exact h0
        rw [List.getElem?_eq_getElem hlen] at h1
        simpa [Addr.add] using World.cell?_spot h1
      subst hspot
      refine ⟨b, off, rfl, fun i hi => ?_⟩
      obtain ⟨_, hl, hc⟩ := World.cells?_some (hC i hi).1
      refine ⟨hl, fun k v hk => ?_⟩
      have hk' : k < sz := by rw [← hl]; exact (List.getElem?_eq_some_iff.1 hk).1
      have := hc k hk'
      rw [add_addr, add_addr] at this
      exact this.trans hk
    · have hmem : D i ∈ (List.range len).map D := List.mem_map.2 ⟨i, List.mem_range.2 hi, rfl⟩
      have := part_le hmem
      simp only [Rows.uptoBulk] at hb
      show Rows.uptoBulk (D i) ≤ N
      omega
theorem rd_int {fuel : Nat} {cs : List Value} {x : DataW H × List MemPlace} (h : DataW.trod enc Try.prog w base spare held fuel 3 cs = some x) : ∃ n, cs = [.int .i64 n] ∧ I64 n := by
  obtain ⟨n, rfl, _, hw⟩ := DataW.trod_int Try.underlying3 h
  refine ⟨n, rfl, ?_⟩
  simp [Lit.wf, IntKind.min, IntKind.max, IntKind.signed, IntKind.bits] at hw
  exact ⟨by omega, by omega⟩
theorem rd_bool {fuel : Nat} {cs : List Value} {x : DataW H × List MemPlace} (h : DataW.trod enc Try.prog w base spare held fuel 4 cs = some x) : ∃ b, cs = [.bool b] := by
  obtain ⟨b, rfl, _⟩ := DataW.trod_bool Try.underlying4 h
  exact ⟨b, rfl⟩
theorem choose_lt {α : Type} [Inhabited α] {n : Nat} {p : Nat → α → Prop} (h : ∀ i, i < n → ∃ a, p i a) : ∃ f : Nat → α, ∀ i, i < n → p i (f i) := by
  have h' : ∀ i, ∃ a, i < n → p i a := fun i => by
    by_cases hi : i < n
    · obtain ⟨a, ha⟩ := h i hi
      exact ⟨a, fun _ => ha⟩
    · exact ⟨default, fun hh => absurd hh hi⟩
  exact Classical.skolem.1 h'
theorem rd_ints {fuel : Nat} {cs : List Value} {x : DataW H × List MemPlace} (h : DataW.trod enc Try.prog w base spare held fuel 30 cs = some x) {N : Nat} (hb : Rows.uptoBulk x.1 ≤ N + 1) (hN : N ≤ 2097152) :
    ∃ (v : Value) (l : List Int), cs = [v] ∧ RInts (wm w) v l ∧ l.length ≤ N := by
  obtain ⟨n, k, v, C, rfl, hn, hS, hE⟩ := rd_slice Try.underlying30 (sz := 1) (by kernel_rfl) (by omega) h hb hN
  obtain ⟨F, hF⟩ := choose_lt (fun i hi => by obtain ⟨y, hy, _⟩ := hE i hi; exact rd_int hy)
  refine ⟨v, (List.range n).map F, rfl, ⟨?_, fun z hz => ?_⟩, by simpa using hn⟩
  · obtain ⟨a, cap, e1, e2, e3, e4⟩ := hS.isSlice
    refine ⟨a, cap, by simpa using e1, by simpa using e2, by simpa using e3, fun hp => ?_⟩
    obtain ⟨b, o, e5, e6⟩ := e4 (by simpa using hp)
    refine ⟨b, o, e5, fun i hi => ⟨rfl, ?_⟩⟩
    have hi' : i < n := by simpa using hi
    have := (e6 i hi').2
    rw [(hF i hi').1] at this
    simpa [List.getD_eq_getElem?_getD, hi'] using this
  · simp only [List.mem_map, List.mem_range] at hz
    obtain ⟨i, hi, rfl⟩ := hz
    exact (hF i hi).2
theorem fld {fs : Array Field} {cs : List Value} {m N : Nat} (hf : ∀ (i : Nat) (f : Field), fs[i]? = some f → ∃ y, DataW.trod enc Try.prog w base spare held m f.type ((cs.drop f.offset).take (Try.prog.cellsOf f.type)) = some y ∧ Rows.uptoBulk y.1 ≤ N)
    (i : Nat) (ty : TypeId) (off c : Nat) {f : Field} (hi : fs[i]? = some f) (ht : f.type = ty) (ho : f.offset = off) (hc : Try.prog.cellsOf ty = c) : ∃ y, DataW.trod enc Try.prog w base spare held m ty ((cs.drop off).take c) = some y ∧ Rows.uptoBulk y.1 ≤ N := by
  subst ht ho hc
  exact hf i f hi
theorem range_get {n i j : Nat} (h : (List.range n)[i]? = some j) : j < n ∧ i = j := by
  have hl := (List.getElem?_eq_some_iff.1 h).1
  rw [List.length_range] at hl
  rw [List.getElem?_range hl] at h
  cases h
  exact ⟨hl, rfl⟩
theorem two_of {α : Type} : ∀ (l : List α), l.length = 2 → ∃ a b, l = [a, b]
  | [a, b], _ => ⟨a, b, rfl⟩
theorem eight_of {α : Type} : ∀ (l : List α), l.length = 8 → ∃ a b c d e f g h, l = [a, b, c, d, e, f, g, h]
  | [a, b, c, d, e, f, g, h], _ => ⟨a, b, c, d, e, f, g, h, rfl⟩
theorem ten_of {α : Type} : ∀ (l : List α), l.length = 10 → ∃ a b c, l = a :: b :: c ∧ c.length = 8
  | a :: b :: c, h => ⟨a, b, c, rfl, by simpa using h⟩
instance : Inhabited Atm := ⟨⟨false, 0⟩⟩
theorem rd_atom {fuel : Nat} {cs : List Value} {x : DataW H × List MemPlace} (h : DataW.trod enc Try.prog w base spare held fuel 76 cs = some x) {N : Nat} (hb : Rows.uptoBulk x.1 ≤ N + 1) : ∃ a : Atm, cs = atomCells a ∧ I64 a.n := by
  obtain ⟨m, hl, hf⟩ := rd_fields Try.underlying76 h hb
  rw [show Try.prog.cellsOf 76 = 2 from by kernel_rfl] at hl
  obtain ⟨c0, c1, rfl⟩ := two_of cs hl
  obtain ⟨y0, h0, _⟩ := fld hf 0 4 0 1 rfl rfl rfl (by kernel_rfl)
  obtain ⟨y1, h1, _⟩ := fld hf 1 3 1 1 rfl rfl rfl (by kernel_rfl)
  simp only [List.drop_succ_cons, List.drop_zero, List.take_succ_cons, List.take_zero] at h0 h1
  obtain ⟨b, hb0⟩ := rd_bool h0
  obtain ⟨n, hn, hi⟩ := rd_int h1
  simp only [List.cons.injEq, and_true] at hb0 hn
  subst hb0 hn
  exact ⟨⟨b, n⟩, rfl, hi⟩
theorem rd_atoms {fuel : Nat} {cs : List Value} {x : DataW H × List MemPlace} (h : DataW.trod enc Try.prog w base spare held fuel 31 cs = some x) {N : Nat} (hb : Rows.uptoBulk x.1 ≤ N + 1) (hN : N ≤ 2097152) :
    ∃ (v : Value) (l : List Atm), cs = [v] ∧ RAtoms (wm w) v l ∧ l.length ≤ N := by
  obtain ⟨n, k, v, C, rfl, hn, hS, hE⟩ := rd_slice Try.underlying31 (sz := 2) (by kernel_rfl) (by omega) h hb hN
  obtain ⟨F, hF⟩ := choose_lt (fun i hi => by obtain ⟨y, hy, hyb⟩ := hE i hi; exact rd_atom hy (N := N) (by omega))
  refine ⟨v, (List.range n).map F, rfl, ⟨?_, fun z hz => ?_⟩, by simpa using hn⟩
  · obtain ⟨a, cap, e1, e2, e3, e4⟩ := hS.isSlice
    refine ⟨a, cap, by simpa using e1, by simpa using e2, by simpa using e3, fun hp => ?_⟩
    obtain ⟨b, o, e5, e6⟩ := e4 (by simpa using hp)
    refine ⟨b, o, e5, fun i hi => ⟨rfl, ?_⟩⟩
    have hi' : i < n := by simpa using hi
    have := (e6 i hi').2
    rw [(hF i hi').1] at this
    simpa [List.getD_eq_getElem?_getD, hi'] using this
  · simp only [List.mem_map, List.mem_range] at hz
    obtain ⟨i, hi, rfl⟩ := hz
    exact (hF i hi).2
abbrev FunD := Int × List Int × Term
instance : Inhabited Term := ⟨.mk 0 0 0 false [] [] [] []⟩
/-- A function's ten cells. -/
def FunOk (w : World) (cs : List Value) (p : FunD × Value × List Value) : Prop := cs = .int .i64 p.1.1 :: p.2.1 :: p.2.2 ∧ RInts (wm w) p.2.1 p.1.2.1 ∧ I64 p.1.1 ∧ RTerm (wm w) p.2.2 p.1.2.2 ∧ p.1.2.1.length ≤ 2097152 ∧ Few 2097152 p.1.2.2
def TermSaid (N : Nat) : Prop := ∀ (H : Type) (enc : TypeId × Value → H) (w : World) (base : Nat) (spare : Nat → Bool) (held : Bool) (fuel : Nat) (cs : List Value) (x : DataW H × List MemPlace), DataW.trod enc Try.prog w base spare held fuel 34 cs = some x → Rows.uptoBulk x.1 ≤ N → ∃ t, RTerm (wm w) cs t ∧ Few 2097152 t
theorem rd_fun {N : Nat} (ih : TermSaid N) (hN : N ≤ 2097151) {fuel : Nat} {cs : List Value} {x : DataW H × List MemPlace} (h : DataW.trod enc Try.prog w base spare held fuel 42 cs = some x) (hb : Rows.uptoBulk x.1 ≤ N + 1) : ∃ p, FunOk w cs p := by
  obtain ⟨m, hl, hf⟩ := rd_fields Try.underlying42 h hb
  rw [show Try.prog.cellsOf 42 = 10 from by kernel_rfl] at hl
  obtain ⟨c0, c1, c, rfl, hc⟩ := ten_of cs hl
  obtain ⟨y0, h0, _⟩ := fld hf 0 3 0 1 rfl rfl rfl (by kernel_rfl)
  obtain ⟨y1, h1, b1⟩ := fld hf 1 30 1 1 rfl rfl rfl (by kernel_rfl)
  obtain ⟨y2, h2, b2⟩ := fld hf 2 34 2 8 rfl rfl rfl (by kernel_rfl)
  simp only [List.drop_succ_cons, List.drop_zero, List.take_succ_cons, List.take_zero] at h0 h1 h2
  rw [List.take_of_length_le (by omega)] at h2
  obtain ⟨n, hn, hi⟩ := rd_int h0
  obtain ⟨v, l, hv, hr, hll⟩ := rd_ints h1 (N := N) (by omega) (by omega)
  obtain ⟨t, ht, hF⟩ := ih H enc w base spare held m c y2 h2 b2
  simp only [List.cons.injEq, and_true] at hn hv
  subst hn hv
  exact ⟨⟨(n, l, t), c1, c⟩, rfl, hr, hi, ht, (by show l.length ≤ 2097152; omega), hF⟩
theorem rd_funs {N : Nat} (ih : TermSaid N) (hN : N ≤ 2097151) {fuel : Nat} {cs : List Value} {x : DataW H × List MemPlace} (h : DataW.trod enc Try.prog w base spare held fuel 22 cs = some x) (hb : Rows.uptoBulk x.1 ≤ N + 1) :
    ∃ (v : Value) (l : List FunD), cs = [v] ∧ RFuns (wm w) v l ∧ l.length ≤ 2097152 ∧ (∀ g ∈ l, g.2.1.length ≤ 2097152) ∧ ∀ g ∈ l, Few 2097152 g.2.2 := by
  obtain ⟨n, k, v, C, rfl, hn, hS, hE⟩ := rd_slice Try.underlying22 (sz := 10) (by kernel_rfl) (by omega) h hb (by omega)
  obtain ⟨F, hF⟩ := choose_lt (fun i hi => by obtain ⟨y, hy, hyb⟩ := hE i hi; exact rd_fun ih hN hy (by omega))
  refine ⟨v, (List.range n).map (fun i => (F i).1), rfl, ⟨C, fun i => (F i).2.2, fun i => (F i).2.1, by simpa using hS, fun i f hi => ?_, fun i f hi => ?_⟩, by simp; omega, fun g hg => ?_, fun g hg => ?_⟩
  · simp only [List.getElem?_map, Option.map_eq_some_iff] at hi
    obtain ⟨j, hj, rfl⟩ := hi
    obtain ⟨hj, rfl⟩ := range_get hj
    exact ⟨(hF _ hj).1, (hF _ hj).2.1, (hF _ hj).2.2.1⟩
  · simp only [List.getElem?_map, Option.map_eq_some_iff] at hi
    obtain ⟨j, hj, rfl⟩ := hi
    obtain ⟨hj, rfl⟩ := range_get hj
    exact (hF _ hj).2.2.2.1
  · simp only [List.mem_map, List.mem_range] at hg
    obtain ⟨i, hi, rfl⟩ := hg
    exact (hF i hi).2.2.2.2.1
  · simp only [List.mem_map, List.mem_range] at hg
    obtain ⟨i, hi, rfl⟩ := hg
    exact (hF i hi).2.2.2.2.2
theorem rd_terms {N : Nat} (ih : TermSaid N) (hN : N ≤ 2097151) {fuel : Nat} {cs : List Value} {x : DataW H × List MemPlace} (h : DataW.trod enc Try.prog w base spare held fuel 32 cs = some x) (hb : Rows.uptoBulk x.1 ≤ N + 1) :
    ∃ (v : Value) (l : List Term) (C : Nat → List Value), cs = [v] ∧ Slc (wm w) 8 v l.length C ∧ (∀ i t, l[i]? = some t → RTerm (wm w) (C i) t) ∧ l.length ≤ 2097152 ∧ ∀ g ∈ l, Few 2097152 g := by
  obtain ⟨n, k, v, C, rfl, hn, hS, hE⟩ := rd_slice Try.underlying32 (sz := 8) (by kernel_rfl) (by omega) h hb (by omega)
  obtain ⟨F, hF⟩ := choose_lt (fun i hi => by obtain ⟨y, hy, hyb⟩ := hE i hi; exact ih H enc w base spare held k (C i) y hy hyb)
  refine ⟨v, (List.range n).map F, C, rfl, by simpa using hS, fun i f hi => ?_, by simp; omega, fun g hg => ?_⟩
  · simp only [List.getElem?_map, Option.map_eq_some_iff] at hi
    obtain ⟨j, hj, rfl⟩ := hi
    obtain ⟨hj, rfl⟩ := range_get hj
    exact (hF _ hj).1
  · simp only [List.mem_map, List.mem_range] at hg
    obtain ⟨i, hi, rfl⟩ := hg
    exact (hF i hi).2
theorem rd_term : ∀ N, N ≤ 2097152 → TermSaid N
  | 0, _, H, enc, w, base, spare, held, fuel, cs, x, h, hb => by have := one_le x.1; omega
  | N + 1, hN, H, enc, w, base, spare, held, fuel, cs, x, h, hb => by
    have ih := rd_term N (by omega)
    obtain ⟨m, hl, hf⟩ := rd_fields Try.underlying34 h hb
    rw [show Try.prog.cellsOf 34 = 8 from by kernel_rfl] at hl
    obtain ⟨c0, c1, c2, c3, c4, c5, c6, c7, rfl⟩ := eight_of cs hl
    obtain ⟨y0, h0, _⟩ := fld hf 0 3 0 1 rfl rfl rfl (by kernel_rfl)
    obtain ⟨y1, h1, _⟩ := fld hf 1 3 1 1 rfl rfl rfl (by kernel_rfl)
    obtain ⟨y2, h2, _⟩ := fld hf 2 3 2 1 rfl rfl rfl (by kernel_rfl)
    obtain ⟨y3, h3, _⟩ := fld hf 3 4 3 1 rfl rfl rfl (by kernel_rfl)
    obtain ⟨y4, h4, b4⟩ := fld hf 4 30 4 1 rfl rfl rfl (by kernel_rfl)
    obtain ⟨y5, h5, b5⟩ := fld hf 5 31 5 1 rfl rfl rfl (by kernel_rfl)
    obtain ⟨y6, h6, b6⟩ := fld hf 6 22 6 1 rfl rfl rfl (by kernel_rfl)
    obtain ⟨y7, h7, b7⟩ := fld hf 7 32 7 1 rfl rfl rfl (by kernel_rfl)
    simp only [List.drop_succ_cons, List.drop_zero, List.take_succ_cons, List.take_zero] at h0 h1 h2 h3 h4 h5 h6 h7
    obtain ⟨k, hk, ik⟩ := rd_int h0
    obtain ⟨xx, hx, ix⟩ := rd_int h1
    obtain ⟨n, hn, inn⟩ := rd_int h2
    obtain ⟨b, hb3⟩ := rd_bool h3
    obtain ⟨vt, tags, ht, rt, lt⟩ := rd_ints h4 (N := N) (by omega) (by omega)
    obtain ⟨va, args, ha, ra, la⟩ := rd_atoms h5 (N := N) (by omega) (by omega)
    obtain ⟨vf, funs, hfu, rf, lf, pf, ff⟩ := rd_funs ih (by omega) h6 (by omega)
    obtain ⟨vn, next, C, hnx, sn, rn, ln, fn⟩ := rd_terms ih (by omega) h7 (by omega)
    simp only [List.cons.injEq, and_true] at hk hx hn hb3 ht ha hfu hnx
    subst hk hx hn hb3 ht ha hfu hnx
    obtain ⟨cf, cb, vp, g1, g2, g3⟩ := rf.ex
    exact ⟨.mk k xx n b tags args funs next, .mk k xx n b tags args funs next _ _ _ _ cf C cb vp ik ix inn rt ra g1 sn g2 g3 rn, .mk _ (by simp only [Term.tags]; omega) (by simp only [Term.args]; omega) lf ln pf ff fn⟩
end
end Go.Proofs.Ytimljadlfhccpaa
