/- What every flat program is run to: the law's walk. -/
import Derived.Test.YtjcgoohmhbgkiaaProg
import Derived.Test.YtjcgoohmhbgkiaaRnE
import Derived.Test.YtjcgoohmhbgkiaaRSame
import Derived.Test.YtjcgoohmhbgkiaaMRel
import Derived.Test.YtjcgoohmhbgkiaaFuelM
import Derived.Deep.CutBlock
import Derived.Deep.DeepCutAuto
set_option linter.all false
set_option linter.all false
namespace Go.Proofs.Ytjcgoohmhbgkiaa
open Go.RowKit
set_option maxHeartbeats 4000000

/-- All of w, but for one box. -/
def exM (p : Option Nat) (w : World) : Mp := fun a => if p = some a.block then none else w.cell? a
/-- The box that is pointed to. -/
def boxB : Option Value → Option Nat
  | some (.pointer (some a)) => some a.block
  | _ => none
theorem exM_below {p : Option Nat} {w w' : World} (h : Below w.heap.size w w') : ∀ a v, exM p w a = some v → exM p w' a = some v := by
  intro a v ha
  unfold exM at ha ⊢
  split at ha
  · cases ha
  · rename_i hn
    rw [if_neg hn]
    exact (h.cell (World.block_lt_of_cell? w a ha)).trans ha
theorem exM_new {w w' : World} {g : Nat} (h : Below w.heap.size w w') (hg : w.heap.size ≤ g) : ∀ a v, exM none w a = some v → exM (some g) w' a = some v := by
  intro a v ha
  unfold exM at ha ⊢
  rw [if_neg (by simp)] at ha
  have hlt := World.block_lt_of_cell? w a ha
  rw [if_neg (by simp; omega)]
  exact (h.cell hlt).trans ha
/-- What the operations of the region tell in which the program is run. -/
def ruPost (W0 : World) (va pl : Value) (f : Flat) (l : List Int) (fuel : Int) (A : Out) (p : Option Nat) : Nat → Value → World → Prop
  | 0, v, _ => v = .agg #[va, .int .i64 f.main]
  | 1, v, w => ∃ g, v = .slice (some ⟨g, 0, none⟩) 0 0 ∧ W0.heap.size ≤ g ∧ w.heap[g]? = some (.cells #[] 3 (0, 0))
  | 2, v, _ => v = pl
  | 3, v, w => w.ownsRow W0.heap.size 3 1 v l.length (l.map (.int .i64))
  | 4, v, _ => v = .int .i64 fuel
  | 5, v, w => ∃ vw vs, v = .tuple #[.agg #[.int .i64 A.e, vw, vs], .int .i64 A.err] ∧ RInts (exM p w) vw A.writes ∧ RInts (exM p w) vs A.shows
  | 6, v, w => ∃ vw vs, v = .tuple #[.agg #[.int .i64 A.e, vw, vs], .int .i64 A.err] ∧ RInts (exM p w) vw A.writes ∧ RInts (exM p w) vs A.shows
  | 7, v, w => ∃ vw vs, v = .agg #[.int .i64 A.e, vw, vs] ∧ RInts (exM p w) vw A.writes ∧ RInts (exM p w) vs A.shows
  | 8, v, _ => v = .int .i64 A.err
  | 9, v, w => ∃ g, v = .pointer (some ⟨g, 0, none⟩) ∧ W0.heap.size ≤ g ∧ p = some g ∧ TB g w [.int .i64 0, .slice none 0 0, .slice none 0 0]
  | _, _, _ => True
theorem ruPost_stable {W0 : World} {va pl : Value} {f : Flat} {l : List Int} {fuel : Int} {A : Out} {p : Option Nat} : ∀ i v w w', ruPost W0 va pl f l fuel A p i v w → Below w.heap.size w w' → ruPost W0 va pl f l fuel A p i v w' := by
  intro i v w w' h hb
  match i, h with
  | 0, h => exact h
  | 1, ⟨g, h1, h2, h3⟩ => exact ⟨g, h1, h2, (hb.block g (Array.getElem?_eq_some_iff.1 h3).1).trans h3⟩
  | 2, h => exact h
  | 3, h => exact ownsRow_below h hb
  | 4, h => exact h
  | 5, ⟨vw, vs, h1, h2, h3⟩ => exact ⟨vw, vs, h1, h2.mono (exM_below hb), h3.mono (exM_below hb)⟩
  | 6, ⟨vw, vs, h1, h2, h3⟩ => exact ⟨vw, vs, h1, h2.mono (exM_below hb), h3.mono (exM_below hb)⟩
  | 7, ⟨vw, vs, h1, h2, h3⟩ => exact ⟨vw, vs, h1, h2.mono (exM_below hb), h3.mono (exM_below hb)⟩
  | 8, h => exact h
  | 9, ⟨g, h1, h2, h3, h4⟩ => exact ⟨g, h1, h2, h3, h4.later hb⟩
  | n + 10, h => trivial
theorem ruPost_box {W0 : World} {va pl : Value} {f : Flat} {l : List Int} {fuel : Int} {A : Out} : ∀ i v w w' g, ruPost W0 va pl f l fuel A none i v w → Below w.heap.size w w' → w.heap.size ≤ g → ruPost W0 va pl f l fuel A (some g) i v w' := by
  intro i v w w' g h hb hg
  match i, h with
  | 0, h => exact h
  | 1, ⟨g, h1, h2, h3⟩ => exact ⟨g, h1, h2, (hb.block g (Array.getElem?_eq_some_iff.1 h3).1).trans h3⟩
  | 2, h => exact h
  | 3, h => exact ownsRow_below h hb
  | 4, h => exact h
  | 5, ⟨vw, vs, h1, h2, h3⟩ => exact ⟨vw, vs, h1, h2.mono (exM_new hb hg), h3.mono (exM_new hb hg)⟩
  | 6, ⟨vw, vs, h1, h2, h3⟩ => exact ⟨vw, vs, h1, h2.mono (exM_new hb hg), h3.mono (exM_new hb hg)⟩
  | 7, ⟨vw, vs, h1, h2, h3⟩ => exact ⟨vw, vs, h1, h2.mono (exM_new hb hg), h3.mono (exM_new hb hg)⟩
  | 8, h => exact h
  | 9, ⟨g, h1, h2, h3, h4⟩ => cases h3
  | n + 10, h => trivial
/-- What holds between them: ahead of the store, and behind it. -/
structure RuPre (W0 : World) (va pl : Value) (f : Flat) (l : List Int) (fuel : Int) (A : Out) (vo : Nat → Option Value) (w : World) : Prop where
  no : vo 10 = none
  bel : Below W0.heap.size W0 w
  told : ∀ i v, vo i = some v → ruPost W0 va pl f l fuel A (boxB (vo 9)) i v w
structure RuEnd (W0 : World) (A : Out) (vo : Nat → Option Value) (w : World) : Prop where
  yes : vo 10 ≠ none
  bel : Below W0.heap.size W0 w
  all : ∀ i, i ≤ 7 ∨ i = 9 → vo i ≠ none
  ex : ∃ g vw vs, vo 9 = some (.pointer (some ⟨g, 0, none⟩)) ∧ W0.heap.size ≤ g ∧ TB g w [.int .i64 A.e, vw, vs] ∧ RInts (fun a => w.cell? a) vw A.writes ∧ RInts (fun a => w.cell? a) vs A.shows ∧ ∃ ag, vo 6 = some (.tuple #[ag, .int .i64 A.err])
  err : ∀ v, vo 8 = some v → v = .int .i64 A.err
def RuJ (W0 : World) (va pl : Value) (f : Flat) (l : List Int) (fuel : Int) (A : Out) (vo : Nat → Option Value) (w : World) : Prop := RuPre W0 va pl f l fuel A vo w ∨ RuEnd W0 A vo w
section
variable {W0 : World} {va pl : Value} {f : Flat} {l : List Int} {fuel : Int} {A : Out} {vo : Nat → Option Value} {w w' : World}
theorem RuJ.pre (h : RuJ W0 va pl f l fuel A vo w) {i : Nat} (hi : i ≤ 7 ∨ i = 9) (hn : vo i = none) : RuPre W0 va pl f l fuel A vo w := h.resolve_right (fun h => h.all i hi hn)
theorem RuPre.put (h : RuPre W0 va pl f l fuel A vo w) (hb : Below w.heap.size w w') {i : Nat} (h9 : i ≠ 9) (h10 : i ≠ 10) {v : Value} (hv : ruPost W0 va pl f l fuel A (boxB (vo 9)) i v w') : RuJ W0 va pl f l fuel A (fun k => if k = i then some v else vo k) w' := by
  refine .inl ⟨?_, h.bel.trans (hb.mono h.bel.size), fun k u hu => ?_⟩
  · show (if 10 = i then some v else vo 10) = none
    rw [if_neg (Ne.symm h10)]; exact h.no
  · have e9 : (if 9 = i then some v else vo 9) = vo 9 := if_neg (Ne.symm h9)
    show ruPost W0 va pl f l fuel A (boxB (if 9 = i then some v else vo 9)) k u w'
    rw [e9]
    by_cases hk : k = i
    · subst hk
      rw [if_pos rfl] at hu
      injection hu with hu
      subst hu
      exact hv
    · rw [if_neg hk] at hu
      exact ruPost_stable k u w w' (h.told k u hu) hb
theorem RuPre.box (h : RuPre W0 va pl f l fuel A vo w) (h9 : vo 9 = none) (t : TypeId) : RuJ W0 va pl f l fuel A (fun k => if k = 9 then some (.pointer (some ⟨w.heap.size, 0, none⟩)) else vo k) (w.alloc (.cells #[.int .i64 0, .slice none 0 0, .slice none 0 0] t)) := by
  have hb := below_box w (.cells #[.int .i64 0, .slice none 0 0, .slice none 0 0] t)
  refine .inl ⟨?_, h.bel.trans (hb.mono h.bel.size), fun k u hu => ?_⟩
  · show (if 10 = 9 then _ else vo 10) = none
    rw [if_neg (by decide)]; exact h.no
  · show ruPost W0 va pl f l fuel A (boxB (if 9 = 9 then some (.pointer (some ⟨w.heap.size, 0, none⟩)) else vo 9)) k u _
    rw [if_pos rfl]
    by_cases hk : k = 9
    · subst hk
      rw [if_pos rfl] at hu
      injection hu with hu
      subst hu
      exact ⟨_, rfl, h.bel.size, rfl, TB.new w [.int .i64 0, .slice none 0 0, .slice none 0 0] t⟩
    · rw [if_neg hk] at hu
      have h2 := h.told k u hu
      rw [h9] at h2
      exact ruPost_box k u w _ _ h2 hb (Nat.le_refl _)
theorem RuEnd.err8 (h : RuEnd W0 A vo w) : RuJ W0 va pl f l fuel A (fun k => if k = 8 then some (.int .i64 A.err) else vo k) w := by
  refine .inr ⟨?_, h.bel, fun i hi => ?_, ?_, fun v hv => ?_⟩
  · show (if 10 = 8 then _ else vo 10) ≠ none
    rw [if_neg (by decide)]; exact h.yes
  · show (if i = 8 then _ else vo i) ≠ none
    split
    · simp
    · exact h.all i hi
  · obtain ⟨g, vw, vs, h1, h2⟩ := h.ex
    obtain ⟨ag, h3⟩ := h2.2.2.2.2
    exact ⟨g, vw, vs, by show (if 9 = 8 then _ else vo 9) = _; rw [if_neg (by decide)]; exact h1, h2.1, h2.2.1, h2.2.2.1, h2.2.2.2.1, ag, by show (if 6 = 8 then _ else vo 6) = _; rw [if_neg (by decide)]; exact h3⟩
  · have hv : (if 8 = 8 then some (.int .i64 A.err) else vo 8) = some v := hv
    rw [if_pos rfl] at hv
    injection hv with hv
    exact hv.symm
theorem RuPre.g9 (h : RuPre W0 va pl f l fuel A vo w) : ∀ g, boxB (vo 9) = some g → g < w.heap.size := by
  intro g hg
  cases h9 : vo 9 with
  | none => rw [h9] at hg; cases hg
  | some v =>
    obtain ⟨g', h1, h2, h3, h4⟩ := h.told 9 v h9
    rw [h9] at hg
    subst h1
    simp only [boxB, Option.some.injEq] at hg
    subst hg
    exact h4.box.1
theorem newM_exM {p : Option Nat} (hp : ∀ g, p = some g → g < w.heap.size) : ∀ a v, newM w w' a = some v → exM p w' a = some v := by
  intro a v ha
  unfold newM at ha
  split at ha
  · cases ha
  · rename_i hn
    unfold exM
    rw [if_neg (fun e => hn (hp _ e))]
    exact ha
theorem RuPre.store (h : RuPre W0 va pl f l fuel A vo w) (hall : ∀ i, i ≤ 7 ∨ i = 9 → vo i ≠ none) {g : Nat} (h9 : vo 9 = some (.pointer (some ⟨g, 0, none⟩))) {vw vs : Value} (h7 : vo 7 = some (.agg #[.int .i64 A.e, vw, vs])) (u : Value) :
    RuJ W0 va pl f l fuel A (fun k => if k = 10 then some u else vo k) (((w.setCell ⟨g, 0, none⟩ (.int .i64 A.e)).setCell ⟨g, 1, none⟩ vw).setCell ⟨g, 2, none⟩ vs) := by
  obtain ⟨g', e1, hg, h4, hT⟩ := h.told 9 _ h9
  injection e1 with e1
  injection e1 with e1
  injection e1 with e1
  subst e1
  obtain ⟨vw', vs', e2, r1, r2⟩ := h.told 7 _ h7
  simp only [Value.agg.injEq, Array.mk.injEq, List.cons.injEq, and_true, true_and] at e2
  obtain ⟨rfl, rfl⟩ := e2
  have hk : Kept [g] w (((w.setCell ⟨g, 0, none⟩ (.int .i64 A.e)).setCell ⟨g, 1, none⟩ vw).setCell ⟨g, 2, none⟩ vs) := kept_set _ (kept_set _ (kept_set _ (Kept.refl _ _) (by simp)) (by simp)) (by simp)
  have hsub : ∀ a v, exM (boxB (vo 9)) w a = some v → (((w.setCell ⟨g, 0, none⟩ (.int .i64 A.e)).setCell ⟨g, 1, none⟩ vw).setCell ⟨g, 2, none⟩ vs).cell? a = some v := fun a v ha => by
    unfold exM at ha
    split at ha
    · cases ha
    · rename_i hn
      exact hk.cell ha (by simp; exact fun e => hn (by rw [h4, e]))
  have b0 := hT.box.2 0 _ rfl
  have b1 := hT.box.2 1 _ rfl
  have b2 := hT.box.2 2 _ rfl
  refine .inr ⟨?_, h.bel.trans (hk.toBelow h.bel.size (by simpa using hg)), fun i hi => ?_, ⟨g, vw, vs, ?_, hg, ⟨⟨Nat.lt_of_lt_of_le hT.box.1 hk.size, fun j v hv => ?_⟩, fun j => by rw [World.frozen?_setCell, World.frozen?_setCell, World.frozen?_setCell]; exact hT.fz j⟩, r1.mono hsub, r2.mono hsub, ?_⟩, fun v hv => ?_⟩
  · show (if 10 = 10 then some u else vo 10) ≠ none
    rw [if_pos rfl]; simp
  · show (if i = 10 then _ else vo i) ≠ none
    rw [if_neg (by omega)]; exact hall i hi
  · show (if 9 = 10 then _ else vo 9) = _
    rw [if_neg (by decide)]; exact h9
  · match j, hv with
    | 0, hv => simp at hv; subst hv; exact (World.cell?_setCell_other _ _ _ _ (by simp)).trans ((World.cell?_setCell_other _ _ _ _ (by simp)).trans (World.cell?_setCell_same _ _ _ b0))
    | 1, hv => simp at hv; subst hv; exact (World.cell?_setCell_other _ _ _ _ (by simp)).trans (World.cell?_setCell_same _ _ _ ((World.cell?_setCell_other _ _ _ _ (by simp)).trans b1))
    | 2, hv => simp at hv; subst hv; exact World.cell?_setCell_same _ _ _ ((World.cell?_setCell_other _ _ _ _ (by simp)).trans ((World.cell?_setCell_other _ _ _ _ (by simp)).trans b2))
    | j + 3, hv => simp at hv
  · cases h6 : vo 6 with
    | none => exact absurd h6 (hall 6 (by omega))
    | some v =>
      obtain ⟨vw6, vs6, e6, _⟩ := h.told 6 v h6
      exact ⟨.agg #[.int .i64 A.e, vw6, vs6], by rw [e6]; exact if_neg (by decide)⟩
  · have hv : (if 8 = 10 then some u else vo 8) = some v := hv
    rw [if_neg (by decide)] at hv
    exact h.told 8 v hv
end
/-- What stands where the program is run. -/
structure RuAt (w : World) (fb : Option Addr) (fcap : Nat) (f : Flat) (va : Value) (T : Nat) (wx : World) : Prop where
  at_ : FuAt w (.slice fb f.funs.length fcap) (.int .i64 f.main) wx
  box : BoxAt T wx [va, .int .i64 f.main]
  rf : RFlat (fun a => wx.cell? a) va f
theorem RuAt.next {w wx wy : World} {fb : Option Addr} {fcap : Nat} {f : Flat} {va : Value} {T : Nat} (h : RuAt w fb fcap f va T wx) (hb : Below wx.heap.size wx wy) : RuAt w fb fcap f va T wy :=
  ⟨h.at_.next hb, h.box.later hb, h.rf.mono (fun a v ha => (hb.cell (World.block_lt_of_cell? wx a ha)).trans ha)⟩
theorem rrunA {A : Out} {m : Mp} {v pl : Value} {f : Flat} {l : List Int} {fuel : Int} (hA : runF f l fuel = A) (hr : RFlat m v f) (hl : RInts m pl l) (hfu : I64 fuel) (w : World) (hm : Ag m w) :
    Calls Try.prog 10 #[.agg #[v, .int .i64 f.main], pl, .int .i64 fuel] w (RRun A w) := by subst hA; exact rrun_any hr hl hfu w hm
set_option maxRecDepth 100000 in
theorem runs_any {m : Mp} {v pl : Value} {f : Flat} {l : List Int} {fuel : Int} (hr : RFlat m v f) (hs : FewF 2097152 f) (hl : RInts m pl l) (hfu : I64 fuel) (w : World) (hm : Ag m w) :
    Calls Try.prog 3 #[.agg #[v, .int .i64 f.main], pl, .int .i64 fuel] w (YesPost w) := by
  have HL := Lib.hid (fun (wx : World) (hb : Below w.heap.size w wx) => large25 hr wx (hm.later hb))
  have HC := Lib.hid (fun (wx : World) (hb : Below w.heap.size w wx) => copyF hr hs wx (hm.later hb))
  have HM := Lib.hid hm
  have HI := Lib.hid hl
  have HR := Lib.hid hr
  have HFU := Lib.hid hfu
  obtain ⟨i1, hi1, hz1, hs1, hy1⟩ := info_parts infoI
  obtain ⟨fb, fcap, rfl, _⟩ := hr.1.opn
  obtain ⟨ao, cap, rfl, hcap, hln, _⟩ := hl.open hm
  have hbx := BoxAt.new w [.slice fb f.funs.length fcap, .int .i64 f.main] 24
  have h0 : FuAt w (.slice fb f.funs.length fcap) (.int .i64 f.main) (w.alloc (.cells #[.slice fb f.funs.length fcap, .int .i64 f.main] 24)) := ⟨below_box _ _, hbx.2 0 _ rfl, hbx.2 1 _ rfl⟩
  have H0 := Lib.hid h0
  obtain ⟨A, hA⟩ : ∃ A, runF f l fuel = A := ⟨_, rfl⟩
  have HA := Lib.hid hA
  clear hr hl hm hbx h0 hs hfu hA
  go_enter Try.func3, Try.ntmps3
  go_upto_region 1 with fail
  go_cut [27] (fun v wx => ∃ b, v = .bool b ∧ Hid (b = false → l.length ≤ 300) ∧ Hid (FuAt w (.slice fb f.funs.length fcap) (.int .i64 f.main) wx))
  case first =>
    by_cases k1 : 300 < l.length
    all_goals by_cases k2 : 10000 < fuel
    all_goals by_cases k3 : fuel ≤ 1048576
    all_goals go_wp2_with (go_at_call 6; refine (HL.out _ H0.out.bel).mono ?_; rintro e w1 ⟨r, rfl, hb1⟩; have H1 := Lib.hid (H0.out.next hb1); clear hb1; cases r)
    all_goals go_meet
    all_goals first | exact ⟨_, rfl, Lib.hid (fun h => (by cases h)), H1⟩ | exact ⟨_, rfl, Lib.hid (fun _ => (by omega)), H1⟩
  case rest =>
  obtain ⟨b, rfl, hok, H1⟩ := hcut
  cases b with
  | true =>
    go_wp2_with (go_at_call 7; refine (wakes _).mono ?_; rintro e w2 ⟨rfl, hb2⟩)
    go_ret
    exact ⟨rfl, bgo H1.out.bel hb2⟩
  | false =>
  have hlen := hok.out rfl
  have d0 := H1.out.c0
  have d1 := H1.out.c1
  clear hok H0 HL
  go_upto_region 4 with (go_at_call 8; refine (HC.out _ H1.out.bel).mono ?_; rintro e w2 ⟨v2, rfl, hb2, hf2⟩; obtain ⟨fb2, fc2, rfl, _⟩ := hf2.1.opn; have H2 := Lib.hid (H1.out.next hb2); have HF2 := Lib.hid hf2; clear hf2 hb2 HC)
  refine gen_wp (fun wx => Hid (RuAt w fb fcap f (.slice fb2 f.funs.length fc2) w2.heap.size wx)) (Lib.hid ⟨H2.out.next (below_box _ _), BoxAt.new w2 [.slice fb2 f.funs.length fc2, .int .i64 f.main] 24, (HF2.out.mono (fun _ _ h => newM_cell h)).mono (fun a v ha => ((below_box w2 _).cell (World.block_lt_of_cell? w2 a ha)).trans ha)⟩) ?_
  intro W0 HW
  obtain ⟨T, hT⟩ : ∃ T, w2.heap.size = T := ⟨_, rfl⟩
  rw [hT] at HW ⊢
  clear hT H2 HF2 H1 d0 d1
  refine wp_region_va [11] (RuJ W0 (.slice fb2 f.funs.length fc2) (.slice ao l.length cap) f l fuel A) (by kernel_rfl) (by kernel_rfl) (.inl ⟨rfl, (Below.refl _ _).drew, fun i v h => by cases h⟩) (by kernel_rfl) ?_ ?_
  · refine ⟨?_, ?_, ?_, ?_, ?_, ?_, ?_, ?_, ?_, ?_, ?_, ?_, trivial⟩
    all_goals (first | (rw [if_pos (by decide)]; trivial) | rw [if_neg (by decide)])
    · intro a wx vo hJ hn hold hpre K hK
      have hP := hJ.pre (.inl (by decide)) hn
      have h7 := hold 7 (by decide)
      simp [Act.eval] at h7
      have hx := HW.out.next hP.bel
      have e0 := hx.box.2 0 _ rfl
      have e1 := hx.box.2 1 _ rfl
      have HK := Lib.hid (hK _ _ (hP.put (Below.refl _ _) (by decide) (by decide) (v := .agg #[.slice fb2 f.funs.length fc2, .int .i64 f.main]) rfl))
      clear hold hpre hK hJ hP hx hn
      go_simp
      exact HK.out
    · intro a wx vo hJ hn hold hpre K hK
      have hP := hJ.pre (.inl (by decide)) hn
      have HK := Lib.hid (hK _ _ (hP.put (below_box wx (.cells #[] 3)) (by decide) (by decide) (v := .slice (some ⟨wx.heap.size, 0, none⟩) 0 0) ⟨_, rfl, hP.bel.size, heap_alloc_new _ _⟩))
      clear hold hpre hK hJ hP hn
      go_simp
      exact HK.out
    · intro a wx vo hJ hn hold hpre K hK
      have hP := hJ.pre (.inl (by decide)) hn
      have h7 := hold 1 (by decide)
      simp [Act.eval] at h7
      have HK := Lib.hid (hK _ _ (hP.put (Below.refl _ _) (by decide) (by decide) (v := .slice ao l.length cap) rfl))
      clear hold hpre hK hJ hP hn
      go_simp
      exact HK.out
    · intro a wx vo hJ hn hold hpre K hK
      have hP := hJ.pre (.inl (by decide)) hn
      obtain ⟨g, hv1, hg, hh⟩ := hP.told 1 _ ((hpre 1 _ rfl (by kernel_rfl)).2 33 rfl)
      have hv2 : a.eval (.tmp 34) = .slice ao l.length cap := hP.told 2 _ ((hpre 2 _ rfl (by kernel_rfl)).2 34 rfl)
      exact wp_append0 (.tmp 33) (.tmp 34) rfl Try.underlying25 hi1 hz1 hs1 hy1 rfl (by decide) hv1 hh hg hv2 (by simp) (src_ints HI.out (HM.out.later (HW.out.next hP.bel).at_.bel)) (intsCells_one _) (by unfold maxLen; omega) (by omega) hP.bel.size (fun v' w' ho hb => hK _ _ (hP.put hb (by decide) (by decide) ho))
    · intro a wx vo hJ hn hold hpre K hK
      have hP := hJ.pre (.inl (by decide)) hn
      have h7 := hold 2 (by decide)
      simp [Act.eval] at h7
      have HK := Lib.hid (hK _ _ (hP.put (Below.refl _ _) (by decide) (by decide) (v := .int .i64 fuel) rfl))
      clear hold hpre hK hJ hP hn
      go_simp
      exact HK.out
    · intro a wx vo hJ hn hold hpre K hK
      have hP := hJ.pre (.inl (by decide)) hn
      have h32 : a.eval (.tmp 32) = .agg #[.slice fb2 f.funs.length fc2, .int .i64 f.main] := hP.told 0 _ ((hpre 0 _ rfl (by kernel_rfl)).2 32 rfl)
      have h36 : a.eval (.tmp 36) = .int .i64 fuel := hP.told 4 _ ((hpre 4 _ rfl (by kernel_rfl)).2 36 rfl)
      have ho := hP.told 3 _ ((hpre 3 _ rfl (by kernel_rfl)).2 35 rfl)
      obtain ⟨v3, h35⟩ : ∃ v3, a.eval (.tmp 35) = v3 := ⟨_, rfl⟩
      rw [h35] at ho
      have ho : wx.ownsRow W0.heap.size 3 1 v3 l.length (l.map (.int .i64)) := ho
      have hx := HW.out.next hP.bel
      have hin := (rints_of (w0 := W0) ho HI.out.2 hln (Nat.le_refl _)).mono (m' := fun a => wx.cell? a) (fun _ _ h => newM_cell h)
      have HCall := Lib.hid ((flRunA hx.rf HA.out wx (fun _ _ h => h) hin).mono (R' := fun e w' => ∃ vw vs, e = .returned (.tuple #[.agg #[.int .i64 A.e, vw, vs], .int .i64 A.err]) ∧ RuJ W0 (.slice fb2 f.funs.length fc2) (.slice ao l.length cap) f l fuel A (fun k => if k = 5 then some (.tuple #[.agg #[.int .i64 A.e, vw, vs], .int .i64 A.err]) else vo k) w') (fun e w' h => by
        obtain ⟨vw, vs, rfl, hb, r1, r2⟩ := h
        exact ⟨vw, vs, rfl, hP.put hb (by decide) (by decide) ⟨vw, vs, rfl, r1.mono (newM_exM hP.g9), r2.mono (newM_exM hP.g9)⟩⟩))
      have HK := Lib.hid hK
      simp [Act.eval] at h32 h35 h36
      clear hold hpre hK hJ hP hn ho hx hin
      go_simp
      refine HCall.out.mono ?_
      rintro e wy ⟨vw, vs, rfl, h⟩
      exact HK.out _ _ h
    · intro a wx vo hJ hn hold hpre K hK
      have hP := hJ.pre (.inl (by decide)) hn
      obtain ⟨vw, vs, h5, r1, r2⟩ := hP.told 5 _ ((hpre 5 _ rfl (by kernel_rfl)).2 37 rfl)
      have HK := Lib.hid (hK _ _ (hP.put (Below.refl _ _) (by decide) (by decide) (v := .tuple #[.agg #[.int .i64 A.e, vw, vs], .int .i64 A.err]) ⟨vw, vs, rfl, r1, r2⟩))
      simp [Act.eval] at h5
      clear hold hpre hK hJ hP hn r1 r2
      go_simp
      exact HK.out
    · intro a wx vo hJ hn hold hpre K hK
      have hP := hJ.pre (.inl (by decide)) hn
      obtain ⟨vw, vs, h5, r1, r2⟩ := hP.told 6 _ ((hpre 6 _ rfl (by kernel_rfl)).2 31 rfl)
      have HK := Lib.hid (hK _ _ (hP.put (Below.refl _ _) (by decide) (by decide) (v := .agg #[.int .i64 A.e, vw, vs]) ⟨vw, vs, rfl, r1, r2⟩))
      simp [Act.eval] at h5
      clear hold hpre hK hJ hP hn r1 r2
      go_simp
      exact HK.out
    · intro a wx vo hJ hn hold hpre K hK
      have h6 := (hpre 6 _ rfl (by kernel_rfl)).2 31 rfl
      have hq : ∃ ag, a.eval (.tmp 31) = .tuple #[ag, .int .i64 A.err] ∧ RuJ W0 (.slice fb2 f.funs.length fc2) (.slice ao l.length cap) f l fuel A (fun k => if k = 8 then some (.int .i64 A.err) else vo k) wx := by
        rcases hJ with hP | hE
        · obtain ⟨vw, vs, h5, r1, r2⟩ := hP.told 6 _ h6
          exact ⟨_, h5, hP.put (Below.refl _ _) (by decide) (by decide) rfl⟩
        · obtain ⟨g, vw, vs, _, _, _, _, _, ag, h7⟩ := hE.ex
          rw [h6] at h7
          injection h7 with h7
          exact ⟨ag, h7, hE.err8⟩
      obtain ⟨ag, h5, hJ2⟩ := hq
      have HK := Lib.hid (hK _ _ hJ2)
      simp [Act.eval] at h5
      clear hold hpre hK hJ hn hJ2 h6
      go_simp
      exact HK.out
    · intro a wx vo hJ hn hold hpre K hK
      have hP := hJ.pre (.inr rfl) hn
      have HK := Lib.hid (hK _ _ (hP.box hn 30))
      clear hold hpre hK hJ hP hn
      go_simp
      exact HK.out
    · intro a wx vo hJ hn hold hpre K hK
      have hP : RuPre W0 (.slice fb2 f.funs.length fc2) (.slice ao l.length cap) f l fuel A vo wx := hJ.resolve_right (fun h => h.yes hn)
      have hall : ∀ i, i ≤ 7 ∨ i = 9 → vo i ≠ none := by
        intro i hi
        have hs : (vo i).isSome = true := by
          rcases (show i = 0 ∨ i = 1 ∨ i = 2 ∨ i = 3 ∨ i = 4 ∨ i = 5 ∨ i = 6 ∨ i = 7 ∨ i = 9 by omega) with rfl | rfl | rfl | rfl | rfl | rfl | rfl | rfl | rfl
          · exact (hpre 0 _ rfl (by kernel_rfl)).1
          · exact (hpre 1 _ rfl (by kernel_rfl)).1
          · exact (hpre 2 _ rfl (by kernel_rfl)).1
          · exact (hpre 3 _ rfl (by kernel_rfl)).1
          · exact (hpre 4 _ rfl (by kernel_rfl)).1
          · exact (hpre 5 _ rfl (by kernel_rfl)).1
          · exact (hpre 6 _ rfl (by kernel_rfl)).1
          · exact (hpre 7 _ rfl (by kernel_rfl)).1
          · exact (hpre 9 _ rfl (by kernel_rfl)).1
        intro e
        rw [e] at hs
        cases hs
      have h9 := (hpre 9 _ rfl (by kernel_rfl)).2 8 rfl
      have h7 := (hpre 7 _ rfl (by kernel_rfl)).2 38 rfl
      obtain ⟨g, e9, hg, h4, hT9⟩ := hP.told 9 _ h9
      obtain ⟨vw, vs, e7, r1, r2⟩ := hP.told 7 _ h7
      obtain ⟨xa, xn, xc, rfl⟩ := rints_slice r1
      obtain ⟨ya, yn, yc, rfl⟩ := rints_slice r2
      rw [e9] at h9
      rw [e7] at h7
      have b0 := hT9.box.2 0 _ rfl
      have b1 := hT9.box.2 1 _ rfl
      have b2 := hT9.box.2 2 _ rfl
      have z0 := hT9.fz 0
      have z1 := hT9.fz 1
      have z2 := hT9.fz 2
      have HK := Lib.hid (hK undef _ (hP.store hall h9 h7 undef))
      simp [Act.eval] at e9 e7
      clear hold hpre hK hJ hP hn r1 r2 hall h9 h7 hT9 h4
      go_simp
      exact HK.out
  · intro vals w5 vo hv hJ
    have hE : RuEnd W0 A vo w5 := hJ.resolve_left (fun h => by have := hv 10 (by decide) (by decide); rw [h.no] at this; cases this)
    obtain ⟨g, vw, vs, h9, hg, hT5, r1, r2, ag, h6⟩ := hE.ex
    obtain ⟨xa, xn, xc, rfl⟩ := rints_slice r1
    obtain ⟨ya, yn, yc, rfl⟩ := rints_slice r2
    have e9 : vals 9 = .pointer (some ⟨g, 0, none⟩) := by have := hv 9 (by decide) (by decide); rw [h9] at this; injection this with this; exact this.symm
    have e8 : vals 8 = .int .i64 A.err := hE.err _ (hv 8 (by decide) (by decide))
    have H5 := Lib.hid (HW.out.next hE.bel)
    have HT5 := Lib.hid hT5
    have HRW := Lib.hid r1
    have HRS := Lib.hid r2
    simp only [fillA, List.contains_cons, List.contains_nil, Nat.reduceAdd, Nat.reduceBEq, Bool.or_false, Bool.or_true, Bool.false_eq_true, if_true, if_false, Act.put, List.setIfInBounds_toArray, List.set_cons_zero, List.set_cons_succ, e9, e8]
    simp only [List.filterMap_cons, List.filterMap_nil, List.getElem?_toArray, List.getElem?_cons_succ, List.getElem?_cons_zero]
    clear hv hJ hE h9 hg hT5 r1 r2 h6 e9 e8
    generalize vals 0 = u0
    generalize vals 1 = u1
    generalize vals 2 = u2
    generalize vals 3 = u3
    generalize vals 4 = u4
    generalize vals 5 = u5
    generalize vals 6 = u6
    generalize vals 7 = u7
    have d0 := H5.out.at_.c0
    have d1 := H5.out.at_.c1
    go_upto_region 6 with (go_at_call 10; refine (rrunA HA.out HR.out HI.out HFU.out w5 (HM.out.later H5.out.at_.bel)).mono ?_; rintro e w6 ⟨qw, qs, rfl, hb6, k1, k2⟩; obtain ⟨pa, pn, pc, rfl⟩ := rints_slice k1; obtain ⟨ra, rn, rc, rfl⟩ := rints_slice k2; have H6 := Lib.hid (H5.out.next hb6); have HT6 := Lib.hid (HT5.out.later hb6); have HRW6 := Lib.hid (HRW.out.mono (fun a v ha => (hb6.cell (World.block_lt_of_cell? w5 a ha)).trans ha)); have HRS6 := Lib.hid (HRS.out.mono (fun a v ha => (hb6.cell (World.block_lt_of_cell? w5 a ha)).trans ha)); have K1 := Lib.hid k1; have K2 := Lib.hid k2; clear k1 k2 hb6)
    refine gen_wp (fun wx => Hid (RuAt w fb fcap f (.slice fb2 f.funs.length fc2) T wx ∧ TB g wx [.int .i64 A.e, .slice xa xn xc, .slice ya yn yc] ∧ BoxAt w6.heap.size wx [.int .i64 A.e, .slice pa pn pc, .slice ra rn rc, .int .i64 A.steps, .int .i64 A.made, .int .i64 A.work] ∧ RInts (fun a => wx.cell? a) (.slice xa xn xc) A.writes ∧ RInts (fun a => wx.cell? a) (.slice pa pn pc) A.writes ∧ RInts (fun a => wx.cell? a) (.slice ya yn yc) A.shows ∧ RInts (fun a => wx.cell? a) (.slice ra rn rc) A.shows))
      (Lib.hid (by
        have hb := below_box w6 (.cells #[.int .i64 A.e, .slice pa pn pc, .slice ra rn rc, .int .i64 A.steps, .int .i64 A.made, .int .i64 A.work] 35)
        have hm : ∀ a v, w6.cell? a = some v → (w6.alloc (.cells #[.int .i64 A.e, .slice pa pn pc, .slice ra rn rc, .int .i64 A.steps, .int .i64 A.made, .int .i64 A.work] 35)).cell? a = some v := fun a v ha => (hb.cell (World.block_lt_of_cell? w6 a ha)).trans ha
        exact ⟨H6.out.next hb, HT6.out.later hb, BoxAt.new w6 [.int .i64 A.e, .slice pa pn pc, .slice ra rn rc, .int .i64 A.steps, .int .i64 A.made, .int .i64 A.work] 35, HRW6.out.mono hm, K1.out.mono hm, HRS6.out.mono hm, K2.out.mono hm⟩)) ?_
    intro W7 H7
    obtain ⟨T2, hT2⟩ : ∃ T2, w6.heap.size = T2 := ⟨_, rfl⟩
    rw [hT2] at H7 ⊢
    clear hT2 H5 HT5 HRW HRS d0 d1 H6 HT6 HRW6 HRS6 K1 K2
    have qe : (A.err != A.err) = false := by simp
    have HSm := Lib.hid (sameRes (e := A.e) H7.out.2.2.2.1 H7.out.2.2.2.2.1 H7.out.2.2.2.2.2.1 H7.out.2.2.2.2.2.2 W7 (fun _ _ h => h))
    have d0 := H7.out.1.at_.c0
    have d1 := H7.out.1.at_.c1
    have t0 := H7.out.1.box.2 0 _ rfl
    have t1 := H7.out.1.box.2 1 _ rfl
    have b0 := H7.out.2.1.box.2 0 _ rfl
    have b1 := H7.out.2.1.box.2 1 _ rfl
    have b2 := H7.out.2.1.box.2 2 _ rfl
    have c0 := H7.out.2.2.1.2 0 _ rfl
    have c1 := H7.out.2.2.1.2 1 _ rfl
    have c2 := H7.out.2.2.1.2 2 _ rfl
    go_upto_region 8 with (first | (go_at_call 11; refine HSm.out.mono ?_; rintro e w8 ⟨rfl, hb8⟩; have H8 := Lib.hid (show RuAt w fb fcap f (.slice fb2 f.funs.length fc2) T w8 ∧ BoxAt T2 w8 [.int .i64 A.e, .slice pa pn pc, .slice ra rn rc, .int .i64 A.steps, .int .i64 A.made, .int .i64 A.work] from ⟨H7.out.1.next hb8, H7.out.2.2.1.later hb8⟩); clear HSm hb8 c0 c1 c2 b0 b1 b2 d0 d1 t0 t1; have d0 := H8.out.1.at_.c0; have d1 := H8.out.1.at_.c1; have t0 := H8.out.1.box.2 0 _ rfl; have t1 := H8.out.1.box.2 1 _ rfl) |
      (go_at_call 12; refine (same25 (m := fun a => w8.cell? a) H8.out.1.rf (HR.out.mono (HM.out.later H8.out.1.at_.bel)) w8 (fun _ _ h => h)).mono ?_; rintro e w9 ⟨rfl, hb9⟩; have H9 := Lib.hid (show RuAt w fb fcap f (.slice fb2 f.funs.length fc2) T w9 ∧ BoxAt T2 w9 [.int .i64 A.e, .slice pa pn pc, .slice ra rn rc, .int .i64 A.steps, .int .i64 A.made, .int .i64 A.work] from ⟨H8.out.1.next hb9, H8.out.2.later hb9⟩); clear hb9 d0 d1 t0 t1))
    go_upto_region 9 with (at_builtin; refine wpList_append0 rfl (.tmp 63) (.tmp 64) rfl Try.underlying25 hi1 hz1 hs1 hy1 rfl (by decide) (g := w9.heap.size) (base := w9.heap.size) rfl (by exact heap_alloc_new _ _) (Nat.le_refl _) rfl (by simp) (src_ints HI.out (HM.out.later (bgo H9.out.1.at_.bel (below_box _ _)))) (intsCells_one _) (by unfold maxLen; omega) (by omega) (by simp) ?_; intro v3 w10 ho3 hb3; have HB3 := Lib.hid (bgo (below_box w9 (.cells #[] 3)) hb3); have HI3 := Lib.hid ((rints_of (w0 := w9) ho3 HI.out.2 hln (Nat.le_refl _)).mono (m' := fun a => w10.cell? a) (fun _ _ h => newM_cell h)); obtain ⟨ao3, cap3, rfl⟩ := ownsRow_slice ho3; clear ho3 hb3)
    have H10 := Lib.hid (show RuAt w fb fcap f (.slice fb2 f.funs.length fc2) T w10 ∧ BoxAt T2 w10 [.int .i64 A.e, .slice pa pn pc, .slice ra rn rc, .int .i64 A.steps, .int .i64 A.made, .int .i64 A.work] from ⟨H9.out.1.next HB3.out, H9.out.2.later HB3.out⟩)
    clear HB3 H9 H8 H7
    have d0 := H10.out.1.at_.c0
    have d1 := H10.out.1.at_.c1
    have t0 := H10.out.1.box.2 0 _ rfl
    have t1 := H10.out.1.box.2 1 _ rfl
    have t3 := H10.out.1.box.1
    have c3 := H10.out.2.2 3 _ rfl
    have c4 := H10.out.2.2 4 _ rfl
    have c5 := H10.out.2.2 5 _ rfl
    have l3 := H10.out.2.1
    have q1 : ((A.steps : Int) == A.steps) = true := by simp
    have q2 : ((A.made : Int) == A.made) = true := by simp
    have q3 : ((A.work : Int) == A.work) = true := by simp
    have hL := later_cell w10
    have HRw := Lib.hid H10.out.1.rf
    have HS := Lib.hid (fun (s : Later w10) => Calls.later_of (flSteps HRw.out fuel s.val ((Ag.self w10).later s.property) HI3.out))
    have HMd := Lib.hid (fun (s : Later w10) => Calls.later_of (flMade HRw.out fuel s.val ((Ag.self w10).later s.property) HI3.out))
    have HWk := Lib.hid (fun (s : Later w10) => Calls.later_of (flWork HRw.out fuel s.val ((Ag.self w10).later s.property) HI3.out))
    have HWa := Lib.hid (fun (s : Later w10) => Calls.later_of (wakes s.val))
    rw [HA.out] at HS HMd HWk
    refine wp_region_later (by kernel_rfl) (by kernel_rfl) ?_
    repeat (go_big_quiet_step ((first | (go_at_call 13; exact HS.out _) | (go_at_call 14; exact HMd.out _) | (go_at_call 15; exact HWk.out _) | (go_at_call 7; exact HWa.out _))))
    refine wpQuiet_nil ?_
    intro _ hw'
    obtain ⟨⟨w11, hb11⟩, hw''⟩ := hw'
    subst hw''
    go_wp2_with fail
    go_ret
    exact ⟨rfl, bgo H10.out.1.at_.bel hb11⟩
end Go.Proofs.Ytjcgoohmhbgkiaa
