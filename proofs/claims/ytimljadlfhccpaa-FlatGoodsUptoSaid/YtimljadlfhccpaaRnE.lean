/- The document's machine: a flat program is run. -/
import Derived.Test.YtimljadlfhccpaaProg
import Derived.Test.YtimljadlfhccpaaRnC
import Derived.Test.YtimljadlfhccpaaRnD
import Derived.Test.YtimljadlfhccpaaRGoodV
import Derived.Test.YtimljadlfhccpaaMFv
import Derived.Test.YtimljadlfhccpaaMGB
import Derived.Test.YtimljadlfhccpaaMCount
import Derived.Test.YtimljadlfhccpaaRnP
import Derived.Deep.LoopGhost
import Derived.Deep.CutBlock
import Derived.Deep.DeepCutAuto
set_option linter.all false
set_option linter.all false
set_option linter.all false
namespace Go.Proofs.Ytimljadlfhccpaa
open Go.RowKit
set_option maxHeartbeats 8000000

/-- What the document's Run tells. -/
def RRun (A : Out) (w : World) (e : Ending) (w' : World) : Prop := ∃ vw vs, e = .returned (.tuple #[.agg #[.int .i64 A.e, vw, vs, .int .i64 A.steps, .int .i64 A.made, .int .i64 A.work], .int .i64 A.err]) ∧ Below w.heap.size w w' ∧ RInts (fun a => w'.cell? a) vw A.writes ∧ RInts (fun a => w'.cell? a) vs A.shows
/-- The result's cells. -/
structure TB (B : Nat) (w : World) (cs : List Value) : Prop where
  box : BoxAt B w cs
  fz : ∀ j, w.frozen? ⟨B, j, none⟩ = false
theorem TB.new (w : World) (cs : List Value) (t : TypeId) : TB w.heap.size (w.alloc (.cells cs.toArray t)) cs := ⟨BoxAt.new w cs t, fun j => World.frozen?_alloc_at _ _ _ _ rfl⟩
theorem TB.later {B : Nat} {w w' : World} {cs : List Value} (h : TB B w cs) (hb : Below w.heap.size w w') : TB B w' cs := ⟨h.box.later hb, fun j => (hb.frozen (p := ⟨B, j, none⟩) h.box.1).trans (h.fz j)⟩
theorem TB.kept {B : Nat} {w w' : World} {cs : List Value} {S : List Nat} (h : TB B w cs) (hk : Kept S w w') (hB : B ∉ S) : TB B w' cs :=
  ⟨⟨Nat.lt_of_lt_of_le h.box.1 hk.size, fun j v hv => hk.cell (h.box.2 j v hv) hB⟩, fun j => (World.frozen?_of_block (a := ⟨B, j, none⟩) (hk.block B h.box.1 hB)).trans (h.fz j)⟩
/-- What stands around the machine: the program's box, the result's. -/
structure RA (w : World) (fb : Option Addr) (fcap : Nat) (f : Flat) (wx : World) : Prop where
  bel : Below w.heap.size w wx
  fbox : BoxAt w.heap.size wx [.slice fb f.funs.length fcap, .int .i64 f.main]
  tb : TB (w.heap.size + 1) wx [.int .i64 0, .slice none 0 0, .slice none 0 0, .int .i64 0, .int .i64 0, .int .i64 0]
section
variable {w wx wy : World} {fb : Option Addr} {fcap : Nat} {f : Flat}
theorem RA.later (h : RA w fb fcap f wx) (hb : Below wx.heap.size wx wy) : RA w fb fcap f wy := ⟨bgo h.bel hb, h.fbox.later hb, h.tb.later hb⟩
theorem RA.kept (h : RA w fb fcap f wx) {S : List Nat} (hk : Kept S wx wy) (hS : ∀ k ∈ S, w.heap.size + 2 ≤ k) : RA w fb fcap f wy :=
  ⟨below_kept h.bel hk (fun k hm => by have := hS k hm; omega), h.fbox.kept hk (fun hm => by have := hS _ hm; omega), h.tb.kept hk (fun hm => by have := hS _ hm; omega)⟩
end
theorem inputV_cons (x : Int) (r : List Int) : inputV (x :: r) = .mk 2 1 [.mk 1 (w31 x) [], inputV r] := by rw [inputV]
/-- A number more ahead of the list. -/
theorem RV.cons {nf : Nat} {S : List Nat} {w : World} {p : Nat} {v : Val} (h : RV nf (memB S w) (.pointer (some ⟨p, 0, none⟩)) v) (n : Int) (hn : I64 n) (hS : ∀ k ∈ S, k < w.heap.size) (t1 t2 t3 : TypeId) :
    RV nf (memB S (((w.alloc (.cells #[.bool true, .int .i64 n, .int .i64 0, .slice none 0 0] t1)).alloc (.cells #[.pointer (some ⟨w.heap.size, 0, none⟩), .pointer (some ⟨p, 0, none⟩)] t2)).alloc (.cells #[.bool false, .int .i64 1, .int .i64 0, .slice (some ⟨w.heap.size + 1, 0, none⟩) 2 2] t3)))
      (.pointer (some ⟨w.heap.size + 1 + 1, 0, none⟩)) (.mk 2 1 [.mk 1 n [], v]) := by
  obtain ⟨W1, hW1⟩ : ∃ W1, w.alloc (.cells #[.bool true, .int .i64 n, .int .i64 0, .slice none 0 0] t1) = W1 := ⟨_, rfl⟩
  have b1 : Below w.heap.size w W1 := by rw [← hW1]; exact below_box _ _
  have z1 : W1.heap.size = w.heap.size + 1 := by rw [← hW1]; simp
  have r1 : RV nf (memB S W1) (.pointer (some ⟨w.heap.size, 0, none⟩)) (.mk 1 n []) := by rw [← hW1]; exact RV.new (k := 1) (.inl rfl) hn (fun h => by omega) (RArgs.nil _ _) hS
  rw [hW1]
  obtain ⟨W2, hW2⟩ : ∃ W2, W1.alloc (.cells #[.pointer (some ⟨w.heap.size, 0, none⟩), .pointer (some ⟨p, 0, none⟩)] t2) = W2 := ⟨_, rfl⟩
  have b2 : Below W1.heap.size W1 W2 := by rw [← hW2]; exact below_box _ _
  have z2 : W2.heap.size = w.heap.size + 1 + 1 := by rw [← hW2]; simp [z1]
  have hx : BoxAt W1.heap.size W2 [.pointer (some ⟨w.heap.size, 0, none⟩), .pointer (some ⟨p, 0, none⟩)] := by rw [← hW2]; exact BoxAt.new W1 [.pointer (some ⟨w.heap.size, 0, none⟩), .pointer (some ⟨p, 0, none⟩)] t2
  rw [hW2]
  have r2 : RArgs nf (memB S W2) (.slice (some ⟨w.heap.size + 1, 0, none⟩) 2 2) [.mk 1 n [], v] := by
    have q1 := r1.mono (Ext.below (S := S) b2).mem
    have q2 := (h.mono (Ext.below (S := S) b1).mem).mono (Ext.below (S := S) b2).mem
    have hc : ∀ j u, W2.cell? ⟨W1.heap.size, j, none⟩ = some u → memB S W2 ⟨w.heap.size + 1, 0 + j * 1, none⟩ = some u := fun j u hj => by
      rw [z1] at hj
      unfold memB
      rw [if_neg (fun hm => by have := hS _ hm; simp at this; omega)]
      simpa using hj
    refine ⟨fun i => if i = 0 then .pointer (some ⟨w.heap.size, 0, none⟩) else .pointer (some ⟨p, 0, none⟩), ⟨some ⟨w.heap.size + 1, 0, none⟩, 2, rfl, by simp, by simp, fun _ => ⟨w.heap.size + 1, 0, rfl, fun i hi => ⟨rfl, fun j u hj => ?_⟩⟩⟩, fun i a hi => ?_⟩
    · have hj0 : j = 0 := by have := (List.getElem?_eq_some_iff.1 hj).1; simp at this; exact this
      subst hj0
      simp at hj
      subst hj
      simp at hi
      match i, hi with
      | 0, _ => exact hc 0 _ (hx.2 0 _ rfl)
      | 1, _ => exact hc 1 _ (hx.2 1 _ rfl)
    · match i, hi with
      | 0, hi => simp at hi; subst hi; exact q1
      | 1, hi => simp at hi; subst hi; exact q2
  have h3 := RV.new (k := 2) (n := 1) (t := t3) (.inr (.inl rfl)) ⟨by omega, by omega⟩ (fun h => by omega) r2 (fun k hk => by have := hS k hk; omega)
  rw [z2] at h3
  exact h3
theorem w31_I64 (n : Int) : I64 (w31 n) := by have := w31_lo n; have := w31_hi n; unfold I64; omega
theorem Rn.more {R base : Nat} {Fb : Option Addr} {Fc : Nat} {f : Flat} {fuel : Int} {w : World} {S : List Nat} {steps : Nat} {s : St} {vw vs : Value} (h : Rn R base Fb Fc f fuel w S steps s vw vs) {k : Nat} (h1 : k < w.heap.size) (h2 : base ≤ k) : Rn R base Fb Fc f fuel w (k :: S) steps s vw vs :=
  ⟨List.mem_cons_of_mem _ h.inS, fun j hj => (List.mem_cons.1 hj).elim (fun e => e ▸ h1) (h.lt j), fun j hj => (List.mem_cons.1 hj).elim (fun e => e ▸ h2) (h.new j), h.c0, h.c1, h.c2, h.c3, h.c4, h.c5, h.c6, h.c7, h.fz, h.ownW, fun j hj => List.mem_cons_of_mem _ (h.rowW j hj), h.ne, h.i64W, h.lenW⟩
theorem ext_new (S : List Nat) (w : World) (o : Obj) : Ext S w (w.heap.size :: S) (w.alloc o) :=
  ⟨Kept.below (below_box _ _), fun k h => List.mem_cons_of_mem _ h, fun k h => (List.mem_cons.1 h).elim (fun e => .inr (e ▸ Nat.le_refl _)) .inl⟩
/-- Where the machine stands ahead of a body. -/
structure RnAt (w : World) (fb : Option Addr) (fcap : Nat) (f : Flat) (fn : Nat) (R : Nat) (fin : Fin') (wr : World) (steps j eb : Nat) : Prop where
  ex : ∃ (env : Env) (s : St) (S : List Nat) (vw vs : Value), Rn R (w.heap.size + 2) fb fcap f (fn : Int) wr S steps s vw vs ∧ EnvM f.funs.length S wr eb env ∧ eb ∈ S ∧ (∀ hj : j < f.funs.length, Ready f (placesF f.funs[j]) env f.funs[j].2.2 ∧ loopF f (fn - steps) f.funs[j].2.2 env steps s = fin) ∧ s.work ≤ steps * 65536 ∧ s.made ≤ 65 * s.work
  ra : RA w fb fcap f wr
/-- Where it stands when the run has come to its end. -/
structure RnEnd (w : World) (fb : Option Addr) (fcap : Nat) (f : Flat) (fn : Nat) (R : Nat) (fin : Fin') (wx : World) (en : Int) : Prop where
  ex : ∃ (S : List Nat) (vw vs : Value), Rn R (w.heap.size + 2) fb fcap f (fn : Int) wx S fin.steps fin.s vw vs ∧ (en = 1 → RInts (nwB (w.heap.size + 2) S wx) vs fin.shows)
  is : en = if fin.stuck then -1 else fin.e
  ra : RA w fb fcap f wx
theorem behind_stop {f : Flat} {k c : Nat} {st : Bool} {en : Int} {sh : List Int} {s : St} : behind f k c (.stop st en sh s) = ⟨st, en, sh, s, c⟩ := by rw [behind]
theorem behind_fuel {f : Flat} {c : Nat} {l : List Val} {s : St} : behind f 0 c (.call l s) = ⟨false, 3, [], s, c⟩ := by rw [behind]
theorem behind_no {f : Flat} {k c : Nat} {l : List Val} {s : St} (h : callOk f l = false) : behind f (k + 1) c (.call l s) = ⟨true, 0, [], s, c + 1⟩ := by rw [behind, h]; rfl
theorem behind_go {f : Flat} {k c : Nat} {l : List Val} {s : St} (h : callOk f l = true) : behind f (k + 1) c (.call l s) = loopF f k (funAt f (headN l)).2.2 (bindEnv (funAt f (headN l)).2.1 l) (c + 1) s := by rw [behind, h]; rfl
theorem bindEnv_snoc {ps : List Int} {l : List Val} (hn : ps.Nodup) (hl : ps.length = l.length) {k : Nat} (hk : k < ps.length) (hk' : k < l.length) {x : Int} {v : Val} (h : bindEnv (ps.take (k + 1)) (l.take (k + 1)) x = some v) : upd (bindEnv (ps.take k) (l.take k)) ps[k] l[k] x = some v := by
  unfold upd
  have e1 : ps.take (k + 1) = ps.take k ++ [ps[k]] := List.take_succ_eq_append_getElem hk
  have e2 : l.take (k + 1) = l.take k ++ [l[k]] := List.take_succ_eq_append_getElem hk'
  have hlen : (ps.take k).length = (l.take k).length := by simp [hl]
  rw [e1, e2] at h
  unfold bindEnv at h ⊢
  rw [List.zip_append hlen, List.find?_append] at h
  by_cases e : x = ps[k]
  · rw [if_pos e]
    have hno : ((ps.take k).zip (l.take k)).find? (fun p => p.1 == x) = none := by
      rw [List.find?_eq_none]
      intro p hp
      have h1 := (List.of_mem_zip hp).1
      obtain ⟨i, hi, rfl'⟩ := List.mem_iff_getElem.1 h1
      simp only [beq_iff_eq]
      intro e2
      rw [List.getElem_take] at rfl'
      have hi' : i < k := by simp at hi; omega
      have := (List.getElem_inj hn (i := i) (j := k)).1 (by rw [rfl', e2, e])
      omega
    rw [hno] at h
    simp [e] at h
    rw [h]
  · rw [if_neg e]
    have h2 : ([ps[k]].zip [l[k]]).find? (fun p => p.1 == x) = none := by simp [Ne.symm e]
    rw [h2] at h
    simpa using h
theorem EnvM.sub {nf : Nat} {S : List Nat} {w : World} {eb : Nat} {env env' : Env} (h : EnvM nf S w eb env) (hs : ∀ x v, env' x = some v → env x = some v) : EnvM nf S w eb env' := by
  obtain ⟨es, h1, h2⟩ := h.ex
  exact ⟨es, h1, fun x v hv => h2 x v (hs x v hv)⟩
theorem EnvM.empty (nf : Nat) (S : List Nat) (w : World) : EnvM nf S (w.alloc (.map #[] 0)) w.heap.size (bindEnv [] []) := ⟨[], IMap.new w, fun x v h => by simp [bindEnv] at h⟩
theorem nodup_params {f : Flat} (h : GoodF f) {i : Nat} (hi : i < f.funs.length) : f.funs[i].2.1.Nodup ∧ 1 ≤ f.funs[i].2.1.length ∧ f.funs[i].2.1.length ≤ 17 ∧ ((i : Int) = f.main → f.funs[i].2.1.length = 1) := by
  obtain ⟨h1, h2, h3, h4, h5, h6, _⟩ := goodFun_parts (h.funs i hi)
  unfold placesF at h5
  exact ⟨(List.nodup_append.1 h5).1, h2, h3, h4⟩
theorem funAt_nat {f : Flat} {i : Nat} {n : Int} (hn : n = i) (hi : i < f.funs.length) : funAt f n = f.funs[i] := by
  subst hn; simp [funAt, List.getD_eq_getElem?_getD, hi]
theorem rn_start {R base : Nat} {fb : Option Addr} {fcap : Nat} {f : Flat} {fuel : Int} {w : World} (h : TB R w [.slice fb f.funs.length fcap, .int .i64 f.main, .int .i64 0, .int .i64 fuel, .int .i64 0, .int .i64 0, .slice none 0 0, .slice none 0 0]) (hR : base ≤ R) : Rn R base fb fcap f fuel w [R] 0 ⟨0, 0, []⟩ (.slice none 0 0) (.slice none 0 0) :=
  ⟨by simp, by simpa using h.box.1, by simpa using hR, h.box.2 0 _ rfl, h.box.2 1 _ rfl, h.box.2 2 _ rfl, h.box.2 3 _ rfl, h.box.2 4 _ rfl, h.box.2 5 _ rfl, h.box.2 6 _ rfl, h.box.2 7 _ rfl, h.fz, World.ownsRow_nil _ _ _ _, by simp [Value.ownBlock], by simp [Value.ownBlock], by simp, by simp⟩
/-- A new map of variables: the machine beside it. -/
theorem rn_map {R base : Nat} {fb : Option Addr} {fcap : Nat} {f : Flat} {fuel : Int} {w : World} {S : List Nat} {steps : Nat} {s : St} {vw vs : Value} (h : Rn R base fb fcap f fuel w S steps s vw vs) (hb : base ≤ w.heap.size) : Rn R base fb fcap f fuel (w.alloc (.map #[] 0)) (w.heap.size :: S) steps s vw vs :=
  (h.later (below_box _ _)).more (by simp) hb
theorem rn_put {R base : Nat} {fb : Option Addr} {fcap : Nat} {f : Flat} {fuel : Int} {w w' : World} {S : List Nat} {steps : Nat} {s : St} {vw vs : Value} {eb : Nat} (h : Rn R base fb fcap f fuel w S steps s vw vs) (hg : w.grownBy w' (some eb)) (hR : R ≠ eb) (hr : vw.ownBlock ≠ some eb) : Rn R base fb fcap f fuel w' S steps s vw vs :=
  h.kept (T := [eb]) (Kept.grown hg (by simp)) (by simpa using hR) (fun k hk hm => by simp at hm; subst hm; exact hr hk)
theorem ext_put {S : List Nat} {w w' : World} {eb : Nat} (hg : w.grownBy w' (some eb)) (he : eb ∈ S) : Ext S w S w' :=
  Ext.of ⟨hg.os, hg.tape, hg.output, hg.size, fun k hk hs => hg.block k hk (fun e => hs (by injection e with e; rw [e]; exact he))⟩
theorem gen_wp {P : Program} {c : Code} {Q : Exit → Act → World → Prop} {a : Act} {W : World} (F : World → Prop) (h1 : F W) (h2 : ∀ W', F W' → c.wp P Q a W') : c.wp P Q a W := h2 W h1
theorem body_kept {f : Flat} {vl : List Int} {t : Term} {env : Env} {s s' : St} {l : List Val} {steps : Nat} (hrd : Ready f vl env t) (hb : bodyT t env s = .call l s') (hw : s.work ≤ steps * 65536) (hm : s.made ≤ 65 * s.work) (ht : tcount t ≤ 65536) : s'.work ≤ (steps + 1) * 65536 ∧ s'.made ≤ 65 * s'.work := by
  have h1 := body_cnt t env s hrd
  have h2 := body_work t env s
  rw [hb] at h1 h2
  have h3 := h1.made
  simp only [BOut.st] at h2 h3
  exact ⟨by omega, by omega⟩
theorem kept_set {S : List Nat} {w w' : World} {b o : Nat} (v : Value) (h : Kept S w w') (hb : b ∈ S) : Kept S w (w'.setCell ⟨b, o, none⟩ v) := h.trans (kept_setCell hb _ _ _)
theorem kept_drew {S : List Nat} {w w' : World} (h : Kept S w w') : Kept S w w'.drew := h.trans (Kept.below (Below.refl _ _).drew)
theorem kept_alloc {S : List Nat} {w w' : World} {o : Obj} (h : Kept S w w') : Kept S w (w'.alloc o) := h.trans (Kept.below (below_box _ _))
theorem bel_set {W w w' : World} {b o : Nat} (v : Value) (h : Below W.heap.size w w') (hb : W.heap.size ≤ b) : Below W.heap.size w (w'.setCell ⟨b, o, none⟩ v) := h.setCell hb _
theorem run_told {R B : Nat} {Fb : Option Addr} {Fc : Nat} {f : Flat} {fuel : Int} {w w' : World} {S : List Nat} {steps : Nat} {s : St} {vw vs : Value} (h : Rn R (B + 2) Fb Fc f fuel w S steps s vw vs) (hk : Kept [B + 1, R, w.heap.size] w w') : RInts (fun a => w'.cell? a) vw s.writes := by
  have h1 := ownsRow_keptS h.ownW hk (fun k hk' hm => by
    have h2 := h.new k (h.rowW k hk')
    have h3 := h.lt k (h.rowW k hk')
    simp at hm
    rcases hm with hm | hm | hm
    · omega
    · subst hm; exact h.ne hk'
    · omega)
  have hl : s.writes.length = s.writes.length := rfl
  exact (rints_memB (S := []) h1 h.i64W (by have := h.lenW; omega) (by simp)).mono (fun a v ha => by unfold memB at ha; simpa using ha)
theorem run_shown {R B : Nat} {w w' : World} {S : List Nat} {vs : Value} {sh : List Int} (h : RInts (nwB (B + 2) S w) vs sh) (hR : R ∈ S) (hk : Kept [B + 1, R, w.heap.size] w w') : RInts (fun a => w'.cell? a) vs sh :=
  h.mono (fun a v ha => by
    unfold nwB memB at ha
    split at ha
    · cases ha
    · rename_i h1
      split at ha
      · cases ha
      · rename_i h2
        have hlt := World.block_lt_of_cell? w a ha
        exact hk.cell ha (by
          simp
          exact ⟨by omega, fun e => h2 (e ▸ hR), by omega⟩))
set_option maxRecDepth 100000 in
theorem rrun_any {m : Mp} {v pl : Value} {f : Flat} {l : List Int} {fuel : Int} (hr : RFlat m v f) (hl : RInts m pl l) (hfu : I64 fuel) (w : World) (hm : Ag m w) :
    Calls Try.prog 19 #[.agg #[v, .int .i64 f.main], pl, .int .i64 fuel] w (RRun (runF f l fuel) w) := by
  have HG := Lib.hid (fun (wx : World) (hb : Below w.heap.size w wx) => good25 hr wx (hm.later hb))
  have HM := Lib.hid hm
  have HI := Lib.hid hl
  have HR := Lib.hid hr
  obtain ⟨fb, fcap, rfl, fle, fbd, F3⟩ := hr.1.opn
  obtain ⟨ao, cap, rfl, hcap, hln, HIN⟩ := hl.open hm
  obtain ⟨fu1, fu2⟩ := hfu
  have hmm := @run_makeMap Try.prog
  clear hr hl hm
  go_enter Try.func19, Try.ntmps19
  cases hgf : goodFlat f with
  | false =>
    rw [hgf] at HG
    have HX := Lib.hid (runF_bad (l := l) (fuel := fuel) hgf)
    clear hgf
    go_wp2_with (go_at_call 9; refine (HG.out _ (bgo (below_box _ _) (below_box _ _))).mono ?_; rintro e w1 ⟨rfl, hb1⟩; have X0 := ((TB.new (w.alloc (.cells #[.slice fb f.funs.length fcap, .int .i64 f.main] 24)) [.int .i64 0, .slice none 0 0, .slice none 0 0, .int .i64 0, .int .i64 0, .int .i64 0] 47).later hb1); have z0 := X0.box.2 0 _ rfl; have z1 := X0.box.2 1 _ rfl; have z2 := X0.box.2 2 _ rfl; have z3 := X0.box.2 3 _ rfl; have z4 := X0.box.2 4 _ rfl; have z5 := X0.box.2 5 _ rfl; have zz := X0.box.1; have q0 := X0.fz 0; have q1 := X0.fz 1; have q2 := X0.fz 2; have q3 := X0.fz 3; have q4 := X0.fz 4; have q5 := X0.fz 5; simp only [World.size_alloc] at z0 z1 z2 z3 z4 z5 zz q0 q1 q2 q3 q4 q5; clear X0)
    have HB := Lib.hid (bgo (bgo (below_box w (.cells #[.slice fb f.funs.length fcap, .int .i64 f.main] 24)) (below_box _ (.cells #[.int .i64 0, .slice none 0 0, .slice none 0 0, .int .i64 0, .int .i64 0, .int .i64 0] 47))) hb1)
    refine bodyPost_ret (v := .tuple #[.agg #[.int .i64 0, .slice none 0 0, .slice none 0 0, .int .i64 0, .int .i64 0, .int .i64 0], .int .i64 250]) (by simp [results, Try.results19, go_sem, z0, z1, z2, z3, z4, z5]) rfl ?_
    rw [HX.out]
    exact ⟨_, _, rfl, (((((((HB.out.setCell (by simp) _).setCell (by simp) _).setCell (by simp) _).setCell (by simp) _).setCell (by simp) _).setCell (by simp) _)), rints_nil _, rints_nil _⟩
  | true =>
  rw [hgf] at HG
  have HGF := Lib.hid hgf
  have HF := Lib.hid (goodFlat_F hgf)
  by_cases hbad : 256 < l.length ∨ fuel < 0 ∨ 1048576 < fuel
  · have HX := Lib.hid (runF_arg (l := l) (fuel := fuel) hgf hbad)
    clear hgf
    by_cases h1 : 256 < l.length
    rotate_left
    by_cases h2 : fuel < 0
    rotate_left
    have h3 : 1048576 < fuel := by rcases hbad with h | h | h <;> omega
    all_goals clear hbad
    all_goals go_wp2_with (go_at_call 9; refine (HG.out _ (bgo (below_box _ _) (below_box _ _))).mono ?_; rintro e w1 ⟨rfl, hb1⟩; have X0 := ((TB.new (w.alloc (.cells #[.slice fb f.funs.length fcap, .int .i64 f.main] 24)) [.int .i64 0, .slice none 0 0, .slice none 0 0, .int .i64 0, .int .i64 0, .int .i64 0] 47).later hb1); have z0 := X0.box.2 0 _ rfl; have z1 := X0.box.2 1 _ rfl; have z2 := X0.box.2 2 _ rfl; have z3 := X0.box.2 3 _ rfl; have z4 := X0.box.2 4 _ rfl; have z5 := X0.box.2 5 _ rfl; have zz := X0.box.1; have q0 := X0.fz 0; have q1 := X0.fz 1; have q2 := X0.fz 2; have q3 := X0.fz 3; have q4 := X0.fz 4; have q5 := X0.fz 5; simp only [World.size_alloc] at z0 z1 z2 z3 z4 z5 zz q0 q1 q2 q3 q4 q5; clear X0)
    all_goals have HB := Lib.hid (bgo (bgo (below_box w (.cells #[.slice fb f.funs.length fcap, .int .i64 f.main] 24)) (below_box _ (.cells #[.int .i64 0, .slice none 0 0, .slice none 0 0, .int .i64 0, .int .i64 0, .int .i64 0] 47))) hb1)
    all_goals refine bodyPost_ret (v := .tuple #[.agg #[.int .i64 0, .slice none 0 0, .slice none 0 0, .int .i64 0, .int .i64 0, .int .i64 0], .int .i64 1]) (by simp [results, Try.results19, go_sem, z0, z1, z2, z3, z4, z5]) rfl ?_
    all_goals rw [HX.out]
    all_goals exact ⟨_, _, rfl, (((((((HB.out.setCell (by simp) _).setCell (by simp) _).setCell (by simp) _).setCell (by simp) _).setCell (by simp) _).setCell (by simp) _)), rints_nil _, rints_nil _⟩
  have h256 : ¬ 256 < l.length := fun h => hbad (.inl h)
  have hfu0 : ¬ fuel < 0 := fun h => hbad (.inr (.inl h))
  have hfuM : ¬ 1048576 < fuel := fun h => hbad (.inr (.inr h))
  have HX := Lib.hid (runF_go (l := l) (fuel := fuel) hgf hbad)
  clear hgf hbad
  go_upto_region 5 with (go_at_call 9; refine (HG.out _ (bgo (below_box _ _) (below_box _ _))).mono ?_; rintro e w1 ⟨rfl, hb1⟩; have HA := Lib.hid (RA.later (w := w) (fb := fb) (fcap := fcap) (f := f) (wx := (w.alloc (.cells #[.slice fb f.funs.length fcap, .int .i64 f.main] 24)).alloc (.cells #[.int .i64 0, .slice none 0 0, .slice none 0 0, .int .i64 0, .int .i64 0, .int .i64 0] 47)) ⟨bgo (below_box _ _) (below_box _ _), (BoxAt.new w [.slice fb f.funs.length fcap, .int .i64 f.main] 24).later (below_box _ _), by have h := TB.new (w.alloc (.cells #[.slice fb f.funs.length fcap, .int .i64 f.main] 24)) [.int .i64 0, .slice none 0 0, .slice none 0 0, .int .i64 0, .int .i64 0, .int .i64 0] 47; rw [World.size_alloc] at h; exact h⟩ hb1); clear hb1)
  have g0 := HA.out.fbox.2 0 _ rfl
  have g1 := HA.out.fbox.2 1 _ rfl
  have zw := HA.out.tb.box.1
  have HR8 := Lib.hid (TB.new w1 [.slice fb f.funs.length fcap, .int .i64 f.main, .int .i64 0, .int .i64 fuel, .int .i64 0, .int .i64 0, .slice none 0 0, .slice none 0 0] 79)
  have HS1 : Hid (∀ k ∈ [w1.heap.size], k < (w1.alloc (.cells #[.slice fb f.funs.length fcap, .int .i64 f.main, .int .i64 0, .int .i64 fuel, .int .i64 0, .int .i64 0, .slice none 0 0, .slice none 0 0] 79)).heap.size) := Lib.hid (by simp)
  have HV0 := Lib.hid (RV.new (nf := f.funs.length) (S := [w1.heap.size]) (w := w1.alloc (.cells #[.slice fb f.funs.length fcap, .int .i64 f.main, .int .i64 0, .int .i64 fuel, .int .i64 0, .int .i64 0, .slice none 0 0, .slice none 0 0] 79)) (k := 2) (n := 0) (t := 83) (.inr (.inl rfl)) ⟨by omega, by omega⟩ (fun h => by omega) (RArgs.nil _ _) HS1.out)
  go_upto_block 0 with fail
  go_cut [9] (fun v wx => ∃ pb, v = .pointer (some ⟨pb, 0, none⟩) ∧ Hid (RV f.funs.length (memB [w1.heap.size] wx) v (inputV l)) ∧ Hid (Below w1.heap.size w1 wx) ∧ Hid (TB w1.heap.size wx [.slice fb f.funs.length fcap, .int .i64 f.main, .int .i64 0, .int .i64 fuel, .int .i64 0, .int .i64 0, .slice none 0 0, .slice none 0 0]))
  case first =>
    go_wp2_with fail
    go_loopg [9, 10] (l.length) (fun g v i wr => ∃ (c pb : Nat), c = g ∧ c ≤ l.length ∧ i = .int .i64 ((c : Int) - 1) ∧ v = .pointer (some ⟨pb, 0, none⟩) ∧ Hid (RV f.funs.length (memB [w1.heap.size] wr) v (inputV (l.drop c))) ∧ Hid (Below w1.heap.size w1 wr) ∧ Hid (TB w1.heap.size wr [.slice fb f.funs.length fcap, .int .i64 f.main, .int .i64 0, .int .i64 fuel, .int .i64 0, .int .i64 0, .slice none 0 0, .slice none 0 0]))
    case atStart =>
      refine ⟨l.length, w1.heap.size + 1, rfl, Nat.le_refl _, rfl, rfl, Lib.hid ?_, Lib.hid (bgo (below_box _ _) (below_box _ _)), Lib.hid (HR8.out.later (below_box _ _))⟩
      rw [List.drop_length]
      have h := HV0.out
      rw [World.size_alloc] at h
      exact h
    case round =>
      obtain ⟨c, pb, hcg, hle, rfl, rfl, HV, HBw, HTB⟩ := hrel
      have HCG := Lib.hid hcg
      clear hcg
      by_cases h0 : 0 < c
      · obtain ⟨k, rfl⟩ : ∃ k, c = k + 1 := ⟨c - 1, by omega⟩
        obtain ⟨b, o, rfl, hcl⟩ := HIN.out k (by omega)
        have hlt : k < l.length := by omega
        have cx := ((bgo HA.out.bel HBw.out).cell (p := ⟨b, o + k, none⟩) (World.block_lt_of_cell? w ⟨b, o + k, none⟩ (hcl k hlt))).trans (hcl k hlt)
        have hi64 := HI.out.2 l[k] (List.getElem_mem hlt)
        have hsz := HBw.out.size
        have HD : Hid (l.drop k = l[k] :: l.drop (k + 1)) := Lib.hid (List.drop_eq_getElem_cons hlt)
        have HSS : Hid (∀ q ∈ [w1.heap.size], q < wr.heap.size) := Lib.hid (by have := HTB.out.box.1; simpa using this)
        clear hcl
        rw [show ((k + 1 : Nat) : Int) - 1 = (k : Int) from by omega]
        go_wp2_with (go_at_call 34; refine (rWrap _ _ hi64.1 hi64.2).mono ?_; rintro e w' ⟨rfl, rfl⟩)
        go_roundg k
        case measure => have := HCG.out; omega
        case rel => exact ⟨k, _, rfl, by omega, by go_num, rfl, Lib.hid (by rw [HD.out, inputV_cons]; exact RV.cons HV.out _ (w31_I64 _) HSS.out _ _ _), Lib.hid (bgo HBw.out (bgo (bgo (below_box _ _) (below_box _ _)) (below_box _ _))), Lib.hid (HTB.out.later (bgo (bgo (below_box _ _) (below_box _ _)) (below_box _ _)))⟩
      · obtain rfl : c = 0 := by omega
        go_wp2_with fail
        go_meet
        exact ⟨pb, rfl, HV, HBw, HTB⟩
  case rest =>
  obtain ⟨pb, rfl, HV, HBw, HTB⟩ := hcut
  clear g0 g1 zw HR8 HS1 HV0 HIN HI
  obtain ⟨wB, hwB⟩ : ∃ x : World, x = wc := ⟨_, rfl⟩
  subst hwB
  have HA2 := Lib.hid (HA.out.later HBw.out)
  have hR1 : w.heap.size + 1 < w1.heap.size := HA.out.tb.box.1
  have hR2 : w1.heap.size < wB.heap.size := HTB.out.box.1
  clear HA HBw
  obtain ⟨mi, hmi⟩ : ∃ mi : Nat, f.main = mi := ⟨f.main.toNat, by have := HF.out.m0; omega⟩
  have hlt : mi < f.funs.length := by have := HF.out.m1; omega
  obtain ⟨fn, rfl⟩ : ∃ fn : Nat, fuel = fn := ⟨fuel.toNat, by omega⟩
  have HFA : Hid (funAt f f.main = f.funs[mi]) := Lib.hid (funAt_nat hmi hlt)
  obtain ⟨hnd, hp1, _, hpm⟩ := nodup_params HF.out hlt
  have hpl : f.funs[mi].2.1.length = 1 := hpm hmi.symm
  obtain ⟨b, o, pvb, pvc, rfl, hT, hP, hPc⟩ := (F3.out mi hlt).tm
  have hmB := HM.out.later HA2.out.bel
  have x1 := hPc wB hmB
  have hp0 : 0 < f.funs[mi].2.1.length := hp1
  obtain ⟨pb1, po1, rfl, x2⟩ := hP.at hmB 0 hp0
  rw [Nat.add_zero] at x2
  have lt1 : b < wB.heap.size := World.block_lt_of_cell? wB ⟨b, o + mi * 10 + 1, none⟩ x1
  have lt2 : pb1 < wB.heap.size := World.block_lt_of_cell? wB ⟨pb1, po1, none⟩ x2
  have g0 := HA2.out.fbox.2 0 _ rfl
  have g1 : wB.cell? ⟨w.heap.size, 1, none⟩ = some (.int .i64 (mi : Int)) := by rw [← hmi]; exact HA2.out.fbox.2 1 _ rfl
  have hpv := (hP.len)
  have hpc : f.funs[mi].2.1.length ≤ pvc := by obtain ⟨⟨_, _, e, h, _⟩, _⟩ := hP; injection e with _ _ e3; omega
  obtain ⟨w3, hrun, hI3, hg3, hz3⟩ := run_mapUpdate_I Try.underlying86 Try.underlying3 (IMap.new wB) (f.funs[mi].2.1[0]'hp0) (.pointer (some ⟨pb, 0, none⟩))
  have HST : Hid (RnAt w (some ⟨b, o, none⟩) fcap f fn w1.heap.size (finF f l fn) w3 0 mi wB.heap.size) := Lib.hid (by
    have r1 := rn_map (rn_start HTB.out (show w.heap.size + 2 ≤ w1.heap.size by omega)) (by omega)
    have r2 := rn_put r1 hg3 (by omega) (by simp [Value.ownBlock])
    have e0 := ext_put (S := wB.heap.size :: [w1.heap.size]) hg3 (by simp)
    have hv := HV.out.mono (ext_new [w1.heap.size] wB (.map #[] 0)).mem
    have en := EnvM.put (es := []) (env := bindEnv [] []) (fun x v h => by simp [bindEnv] at h) hv hI3 e0
    refine ⟨⟨bindEnv f.funs[mi].2.1 [inputV l], ⟨0, 0, []⟩, _, _, _, r2, en.sub (fun x v h => ?_), by simp, fun hj => ⟨HF.out.ready hj (by simpa using hpl), ?_⟩, by simp, by simp⟩, ?_⟩
    · have := bindEnv_snoc (ps := f.funs[mi].2.1) (l := [inputV l]) hnd (by simpa using hpl) (k := 0) (by omega) (by simp) (x := x) (v := v) (by rw [List.take_of_length_le (by omega)]; exact h)
      simpa using this
    · unfold finF
      rw [HFA.out]; rfl
    · exact (HA2.out.later (below_box _ _)).kept (S := [wB.heap.size]) (Kept.grown hg3 (by simp)) (by simp; omega))
  have HPC := Lib.hid hPc
  have HTT := Lib.hid hT
  have HPP := Lib.hid hP
  have HMI := Lib.hid hmi
  clear hmi hPc hT hP hnd hpl hpm hI3 hg3 hz3 HV hmB HFA
  go_upto_block 2 with fail
  go_cut [13] (fun v wx => ∃ en : Int, v = .int .i64 en ∧ Hid (RnEnd w (some ⟨b, o, none⟩) fcap f fn w1.heap.size (finF f l fn) wx en))
  case first =>
    as_aux_lemma =>
    clear x1 g0 g1 lt1 lt2 hpv hpc HPC HTT HPP

    go_wp2_with fail
    go_loopg [11, 12, 13] fn (fun g v11 v12 v13 wr => ∃ (steps j eb : Nat), steps + g = fn ∧ v11 = .pointer (some ⟨b, o + j * 10, none⟩) ∧ v12 = .map (some eb) ∧ v13 = .int .i64 0 ∧ j < f.funs.length ∧ Hid (RnAt w (some ⟨b, o, none⟩) fcap f fn w1.heap.size (finF f l fn) wr steps j eb))
    case atStart => exact ⟨0, mi, wB.heap.size, by omega, rfl, rfl, rfl, hlt, HST⟩
    case round =>
      clear HST HA2 HTB
      obtain ⟨steps, j, eb, hsg, rfl, rfl, rfl, hj, HAT⟩ := hrel
      have HSG := Lib.hid hsg
      have hst : steps ≤ fn := by omega
      clear hsg
      obtain ⟨env, s, S, vw, vs, hrn, henv, heb, hrf, hwk, hmd⟩ := HAT.out.ex
      obtain ⟨hrd, hfin⟩ := hrf hj
      rw [loopF_eq] at hfin
      have HRA := Lib.hid HAT.out.ra
      have hmr := HM.out.later HRA.out.bel
      obtain ⟨b', o', pvb, pvc, hbe, hT, hP, hPc⟩ := (F3.out j hj).tm
      injection hbe with hbe
      injection hbe with e1 e2 _
      subst e1
      subst e2
      have htc := HF.out.tcount hj
      have HB := Lib.hid (show BAt m w1.heap.size (w.heap.size + 2) eb (some ⟨b, o, none⟩) fcap f fn steps vs (placesF f.funs[j]) wr S (tcount f.funs[j].2.2) 0 wr S b (o + j * 10 + 2) f.funs[j].2.2 env s vw from
        ⟨hT, hmr, fun a v ha => by have := World.block_lt_of_cell? w a (HM.out a v ha); omega, hrn, henv, heb, hrd, by omega, by omega, by omega, Ext.refl _ _, HF.out.most⟩)
      have HBD := Lib.hid (rbody_any HB.out)
      have HSN := Lib.hid hrn.new
      have HKB : Hid (∀ l' s', bodyT f.funs[j].2.2 env s = .call l' s' → s'.work ≤ (steps + 1) * 65536 ∧ s'.made ≤ 65 * s'.work) := Lib.hid (fun l' s' h => body_kept hrd h hwk hmd htc)
      clear hrn henv heb hrf hwk hmd hrd hmr hT hP hPc htc HB HAT
      cases hb : bodyT f.funs[j].2.2 env s with
      | stop st en sh s' =>
        rw [hb, behind_stop] at hfin
        rw [hb] at HBD
        have HFIN := Lib.hid hfin
        clear hfin hb HKB
        go_wp2_with (go_at_call 35; refine HBD.out.mono ?_; clear HBD; rintro e w2 ⟨S2, hE, vw2, vs2, en', rfl, hrn2, hen, hne, hsh⟩; have HE := Lib.hid hE; have HRN2 := Lib.hid hrn2; have HEN := Lib.hid hen; have HSH := Lib.hid hsh; clear hE hrn2 hen hsh; have hq : (en' != 0) = true := by (rw [bne_iff_ne]; exact hne))
        go_meet
        exact ⟨en', rfl, Lib.hid ⟨⟨S2, vw2, vs2, by rw [← HFIN.out]; exact HRN2.out, by rw [← HFIN.out]; exact fun e => (HSH.out e).mono (nwB_le (by have := HRA.out.tb.box.1; omega))⟩, by rw [← HFIN.out]; exact HEN.out, HRA.out.kept HE.out.kept HSN.out⟩⟩
      | call l' s' =>
        rw [hb] at HBD hfin
        have HKB2 := Lib.hid (HKB.out l' s' hb)
        have HFIN := Lib.hid hfin
        clear hfin hb HKB
        go_upto_region 18 with (go_at_call 35; refine HBD.out.mono ?_; clear HBD; rintro e w2 ⟨S2, hE, v, vw2, vs2, rfl, hrn2, hargs, hpos⟩; have HE := Lib.hid hE; have HRN2 := Lib.hid hrn2; have HRG := Lib.hid hargs; clear hE hrn2 hargs)
        have c2 := HRN2.out.c2
        have c3 := HRN2.out.c3
        have f2 := HRN2.out.fz 2
        have ltR := HRN2.out.ltR
        by_cases hf : steps = fn
        · have q : ((steps : Int) == (fn : Int)) = true := by rw [beq_iff_eq]; omega
          have HFIN2 : Hid (Fin'.mk false 3 [] s' steps = finF f l fn) := Lib.hid (by rw [← HFIN.out, show fn - steps = 0 from by omega, behind_fuel])
          clear hf
          have hL3 := later_cell w2
          refine wp_region_later (by kernel_rfl) (by kernel_rfl) ?_
          repeat (go_big_quiet_step (fail))
          refine wpQuiet_nil ?_
          intro w3 hw'
          obtain ⟨⟨w3', hb3⟩, hw''⟩ := hw'
          subst hw''
          have HB3 := Lib.hid hb3
          clear hb3 hL3
          go_wp2_with fail
          go_meet
          exact ⟨3, rfl, Lib.hid ⟨⟨S2, vw2, vs2, by rw [← HFIN2.out]; exact HRN2.out.later HB3.out, fun h => by omega⟩, by rw [← HFIN2.out]; rfl, (HRA.out.kept HE.out.kept HSN.out).later HB3.out⟩⟩
        have q : ((steps : Int) == (fn : Int)) = false := by rw [beq_eq_false_iff_ne]; omega
        obtain ⟨kk, hkk⟩ : ∃ kk, fn - steps = kk + 1 := ⟨fn - steps - 1, by omega⟩
        rw [hkk] at HFIN
        have HKK := Lib.hid hkk
        clear hkk hf
        have hL3 := later_cell w2
        refine wp_region_later (by kernel_rfl) (by kernel_rfl) ?_
        repeat (go_big_quiet_step (fail))
        refine wpQuiet_nil ?_
        intro w3 hw'
        obtain ⟨⟨w3', hb3⟩, hw''⟩ := hw'
        subst hw''
        have HB3 := Lib.hid hb3
        clear hb3 hL3
        have c2 := (HRN2.out.later HB3.out).c2
        have f2 := (HRN2.out.later HB3.out).fz 2
        have hst2 : steps ≤ 1048576 := by omega
        go_upto_region 21 with fail
        refine gen_wp (fun wx => Hid (Rn w1.heap.size (w.heap.size + 2) (some ⟨b, o, none⟩) fcap f fn wx S2 (steps + 1) s' vw2 vs2 ∧ RA w (some ⟨b, o, none⟩) fcap f wx ∧ RArgs f.funs.length (memB S2 wx) v l')) (Lib.hid ⟨(HRN2.out.later HB3.out).set 2 _ rfl (by rw [if_pos rfl]; simp) (if_neg (by omega)) (if_neg (by omega)) (if_neg (by omega)) (by omega), ((HRA.out.kept HE.out.kept HSN.out).later HB3.out).kept (kept_setCell HRN2.out.inS _ _ _) HRN2.out.new, (HRG.out.mono (Ext.below HB3.out).mem).mono ((HRN2.out.later HB3.out).ext 2 _).mem⟩) ?_
        intro wC HF4
        clear c2 c3 f2 ltR q HRN2 HE HRA HB3 HRG
        obtain ⟨ab, ac, rfl, hle, hbd, hel⟩ := HF4.out.2.2.open
        obtain ⟨c, o1, qv, rfl, hq, hcq⟩ := hel 0 hpos
        obtain ⟨b0, ab0, ac0, rfl, O⟩ := hq.open
        have hag := memB_ag S2 wC
        have y0 := hcq wC hag
        rw [Nat.add_zero] at y0
        have g0 := HF4.out.2.1.fbox.2 0 _ rfl
        have lt0 := HF4.out.2.1.fbox.1
        have lt1 : c < wC.heap.size := World.block_lt_of_cell? wC ⟨c, o1, none⟩ y0
        obtain ⟨v0, hv0⟩ : ∃ v0, l'[0] = v0 := ⟨_, rfl⟩
        have hhd : headN l' = v0.n := by cases l' with
          | nil => simp at hpos
          | cons x r => simp at hv0; subst hv0; rfl
        have hcok : callOk f l' = (v0.kind == 3 && (funAt f v0.n).2.1.length == l'.length) := by cases l' with
          | nil => simp at hpos
          | cons x r => simp at hv0; subst hv0; rfl
        rw [hv0] at O
        have HHD := Lib.hid hhd
        have HCOK := Lib.hid hcok
        clear hhd hcok hv0 hq hcq hel
        by_cases hk3 : v0.kind = 3
        rotate_left
        · have HNO : Hid (callOk f l' = false) := Lib.hid (by rw [HCOK.out]; simp [hk3])
          have z2 : wC.cell? ⟨b0, 2, none⟩ = some (.int .i64 0) := by have := (O.cells wC hag).2.2.1; rwa [if_neg hk3] at this
          have lt2 : b0 < wC.heap.size := World.block_lt_of_cell? wC ⟨b0, 2, none⟩ z2
          clear O hk3 hag
          have hL5 := later_cell wC
          refine wp_region_later (by kernel_rfl) (by kernel_rfl) ?_
          repeat (go_big_quiet_step (fail))
          refine wpQuiet_nil ?_
          intro w5 hw'
          obtain ⟨⟨w5', hb5⟩, hw''⟩ := hw'
          subst hw''
          have HB5 := Lib.hid hb5
          clear hb5 hL5
          go_wp2_with fail
          go_meet
          exact ⟨-1, rfl, Lib.hid ⟨⟨S2, vw2, vs2, by rw [← HFIN.out, behind_no HNO.out]; exact HF4.out.1.later HB5.out, fun h => by omega⟩, by rw [← HFIN.out, behind_no HNO.out]; rfl, HF4.out.2.1.later HB5.out⟩⟩

        obtain ⟨kn, hkn⟩ : ∃ kn : Nat, v0.n = kn := ⟨v0.n.toNat, by have := O.h3 hk3; omega⟩
        have hknl : kn < f.funs.length := by have := O.h3 hk3; omega
        have z2 : wC.cell? ⟨b0, 2, none⟩ = some (.int .i64 ((kn : Int) + 1)) := by have := (O.cells wC hag).2.2.1; rwa [if_pos hk3, hkn] at this
        have lt2 : b0 < wC.heap.size := World.block_lt_of_cell? wC ⟨b0, 2, none⟩ z2
        have hFA : funAt f (headN l') = f.funs[kn] := funAt_nat (by rw [HHD.out, hkn]) hknl
        have hCK : callOk f l' = (f.funs[kn].2.1.length == l'.length) := by rw [HCOK.out, ← HHD.out, hFA, hk3]; rfl
        have HFA := Lib.hid hFA
        have HCK := Lib.hid hCK
        obtain ⟨b', o', pvb, pvc, hbe, hT, hP, hPc⟩ := (F3.out kn hknl).tm
        injection hbe with hbe
        injection hbe with e1 e2 _
        subst e1
        subst e2
        have hmc := HM.out.later HF4.out.2.1.bel
        have x1 := hPc wC hmc
        have lt3 : b < wC.heap.size := World.block_lt_of_cell? wC ⟨b, o + kn * 10 + 1, none⟩ x1
        have hq3 : ((kn : Int) + 1 == 0) = false := by rw [beq_eq_false_iff_ne]; omega
        have hpl17 := (nodup_params HF.out hknl).2.2.1
        have HPC := Lib.hid hPc
        have HPP := Lib.hid hP
        clear O hk3 hag hkn hFA hCK hPc hP hT hmc HHD HCOK
        by_cases hln2 : f.funs[kn].2.1.length = l'.length
        rotate_left
        · have q4 : ((f.funs[kn].2.1.length : Int) != (l'.length : Int)) = true := by rw [bne_iff_ne]; omega
          have HNO : Hid (callOk f l' = false) := Lib.hid (by rw [HCK.out]; simpa using hln2)
          clear hln2
          have hL5 := later_cell wC
          refine wp_region_later (by kernel_rfl) (by kernel_rfl) ?_
          repeat (go_big_quiet_step (fail))
          refine wpQuiet_nil ?_
          intro w5 hw'
          obtain ⟨⟨w5', hb5⟩, hw''⟩ := hw'
          subst hw''
          have HB5 := Lib.hid hb5
          clear hb5 hL5
          go_wp2_with fail
          go_meet
          exact ⟨-1, rfl, Lib.hid ⟨⟨S2, vw2, vs2, by rw [← HFIN.out, behind_no HNO.out]; exact HF4.out.1.later HB5.out, fun h => by omega⟩, by rw [← HFIN.out, behind_no HNO.out]; rfl, HF4.out.2.1.later HB5.out⟩⟩

        have q4 : ((f.funs[kn].2.1.length : Int) != (l'.length : Int)) = false := by rw [bne_eq_false_iff_eq]; omega
        have HOK : Hid (callOk f l' = true) := Lib.hid (by rw [HCK.out]; simpa using hln2)
        have HLN := Lib.hid hln2
        clear hln2
        have hL5 := later_cell wC
        refine wp_region_later (by kernel_rfl) (by kernel_rfl) ?_
        repeat (go_big_quiet_step (fail))
        refine wpQuiet_nil ?_
        intro w5 hw'
        obtain ⟨⟨w5', hb5⟩, hw''⟩ := hw'
        subst hw''
        have HB5 := Lib.hid hb5
        clear hb5 hL5
        go_upto_region 23 with fail
        have HA5 := Lib.hid (HF4.out.2.1.later HB5.out)
        have g0 := HA5.out.fbox.2 0 _ rfl
        have lt0 := HA5.out.fbox.1
        have y0 := (HB5.out.cell (p := ⟨c, o1, none⟩) lt1).trans y0
        have z2 := (HB5.out.cell (p := ⟨b0, 2, none⟩) lt2).trans z2
        have lt1 := Nat.lt_of_lt_of_le lt1 HB5.out.size
        have lt2 := Nat.lt_of_lt_of_le lt2 HB5.out.size
        clear x1 lt3
        have hL6 := later_cell w5
        refine wp_region_later (by kernel_rfl) (by kernel_rfl) ?_
        repeat (go_big_quiet_step (fail))
        refine wpQuiet_nil ?_
        intro w6 hw'
        obtain ⟨⟨w6', hb6⟩, hw''⟩ := hw'
        subst hw''
        have HB6 := Lib.hid hb6
        clear hb6 hL6
        have HF6 := Lib.hid (show Rn w1.heap.size (w.heap.size + 2) (some ⟨b, o, none⟩) fcap f fn w6 S2 (steps + 1) s' vw2 vs2 ∧ RA w (some ⟨b, o, none⟩) fcap f w6 ∧ RArgs f.funs.length (memB S2 w6) (.slice (some ⟨c, o1, none⟩) l'.length ac) l' from ⟨(HF4.out.1.later HB5.out).later HB6.out, HA5.out.later HB6.out, (HF4.out.2.2.mono (Ext.below HB5.out).mem).mono (Ext.below HB6.out).mem⟩)
        clear y0 z2 lt0 lt1 lt2 g0 HF4 HA5 HB5 HB6 q4 hq3
        go_upto_block 4 with fail
        obtain ⟨wD, hwD⟩ : ∃ x : World, w6.alloc (.map #[] 0) = x := ⟨_, rfl⟩
        have HWD := Lib.hid hwD
        have hnb : w.heap.size + 2 ≤ w6.heap.size := by have := HF6.out.2.1.bel.size; have := HF6.out.1.ltR; omega
        have HFD := Lib.hid (show Rn w1.heap.size (w.heap.size + 2) (some ⟨b, o, none⟩) fcap f fn wD (w6.heap.size :: S2) (steps + 1) s' vw2 vs2 ∧ RA w (some ⟨b, o, none⟩) fcap f wD ∧ RArgs f.funs.length (memB (w6.heap.size :: S2) wD) (.slice (some ⟨c, o1, none⟩) l'.length ac) l' ∧ EnvM f.funs.length (w6.heap.size :: S2) wD w6.heap.size (bindEnv [] []) ∧ vw2.ownBlock ≠ some w6.heap.size ∧ w1.heap.size ≠ w6.heap.size from by
          rw [← hwD]
          exact ⟨rn_map HF6.out.1 hnb, HF6.out.2.1.later (below_box _ _), HF6.out.2.2.mono (ext_new _ _ _).mem, EnvM.empty _ _ _, fun e => by have := HF6.out.1.lt _ (HF6.out.1.rowW _ e); omega, by have := HF6.out.1.ltR; omega⟩)
        rw [hwD]
        clear hwD HF6
        obtain ⟨wo, hwo⟩ : ∃ x : World, x = wr := ⟨_, rfl⟩
        subst hwo
        obtain ⟨eb2, heb2⟩ : ∃ x : Nat, w6.heap.size = x := ⟨_, rfl⟩
        rw [heb2] at HFD hnb ⊢
        clear heb2
        go_wp2_with fail
        go_loopg [15] (l'.length) (fun g v15 wq => ∃ k : Nat, k + g = l'.length ∧ v15 = .int .i64 k ∧ Hid (Kept [eb2] wD wq) ∧ Hid (EnvM f.funs.length (eb2 :: S2) wq eb2 (bindEnv (f.funs[kn].2.1.take k) (l'.take k))))
        case atStart => exact ⟨0, by omega, rfl, Lib.hid (Kept.refl _ _), Lib.hid (by rw [List.take_zero, List.take_zero]; exact HFD.out.2.2.2.1)⟩
        case round =>
          obtain ⟨k, hkg, rfl, HK, HE⟩ := hrel
          have HKG := Lib.hid hkg
          have hkle : k ≤ l'.length := by omega
          clear hkg
          have HRAq := Lib.hid (HFD.out.2.1.kept HK.out (by simpa using hnb))
          have hXe : Ext (eb2 :: S2) wD (eb2 :: S2) wr := Ext.of ⟨HK.out.os, HK.out.tape, HK.out.output, HK.out.size, fun i hi hs => HK.out.block i hi (fun h => hs (by simp at h; simp [h]))⟩
          have HX2 := Lib.hid hXe
          clear hXe
          by_cases hlt : k < l'.length
          · have hmq := HM.out.later HRAq.out.bel
            have hkp : k < f.funs[kn].2.1.length := by have := HLN.out; omega
            have x1 := HPC.out wr hmq
            obtain ⟨pb1, po1, rfl, x2⟩ := HPP.out.at hmq k hkp
            have hpcc : f.funs[kn].2.1.length ≤ pvc := by obtain ⟨⟨_, _, e, h, _⟩, _⟩ := HPP.out; injection e with _ _ e3; omega
            obtain ⟨ab', ac', eab, hle', hbd', hel'⟩ := (HFD.out.2.2.1.mono HX2.out.mem).open
            injection eab with e1 e2 e3
            subst e1
            subst e3
            obtain ⟨c', o1', qk, ec, hqk, hcqk⟩ := hel' k hlt
            injection ec with ec
            injection ec with e1 e2 _
            subst e1
            subst e2
            obtain ⟨bk, rfl⟩ := hqk.ptr
            have y0 := hcqk wr (memB_ag _ _)
            obtain ⟨es, IM, hmap⟩ := HE.out.ex
            obtain ⟨w7, hrun, hI7, hg7, hz7⟩ := run_mapUpdate_I (w := wr.drew) Try.underlying86 Try.underlying3 (IM.same rfl) (f.funs[kn].2.1[k]'hkp) (.pointer (some ⟨bk, 0, none⟩))
            have hgr : wr.grownBy w7 (some eb2) := ⟨hg7.os, hg7.tape, hg7.output, hg7.size, hg7.block⟩
            have HK7 : Hid (Kept [eb2] wD w7) := Lib.hid (HK.out.trans (Kept.grown hgr (by simp)))
            have HEN : Hid (EnvM f.funs.length (eb2 :: S2) w7 eb2 (bindEnv (f.funs[kn].2.1.take (k + 1)) (l'.take (k + 1)))) := Lib.hid ((EnvM.put hmap hqk hI7 (ext_put hgr (by simp))).sub (fun x v h => bindEnv_snoc (nodup_params HF.out hknl).1 HLN.out hkp hlt h))
            clear hmq hel' hqk hcqk IM hmap hI7 hg7 hgr hz7 HK HE HX2 HRAq
            go_wp2_with fail
            go_region
            all_goals go_wp2_with fail
            go_roundg (l'.length - (k + 1))
            case measure => have := HKG.out; omega
            case rel => exact ⟨k + 1, by omega, by go_num, HK7, HEN⟩
          · obtain rfl : k = l'.length := by omega
            have HE2 : Hid (EnvM f.funs.length (eb2 :: S2) wr eb2 (bindEnv f.funs[kn].2.1 l')) := Lib.hid (by have h := HE.out; rw [List.take_of_length_le (Nat.le_refl _), List.take_of_length_le (by rw [HLN.out]; exact Nat.le_refl _)] at h; exact h)
            have HR2 := Lib.hid (HFD.out.1.kept HK.out (by simpa using HFD.out.2.2.2.2.2) (fun q hq hm => by simp at hm; subst hm; exact HFD.out.2.2.2.2.1 hq))
            have HL2 : Hid (loopF f (fn - (steps + 1)) f.funs[kn].2.2 (bindEnv f.funs[kn].2.1 l') (steps + 1) s' = finF f l fn) := Lib.hid (by rw [← HFIN.out, behind_go HOK.out, HFA.out, show fn - (steps + 1) = kk from by have := HKK.out; omega])
            clear HE HK HX2
            go_wp2_with fail
            go_roundg (fn - (steps + 1))
            case measure => have := HSG.out; have := HKK.out; omega
            case rel => exact ⟨steps + 1, kn, eb2, by have := HKK.out; omega, rfl, rfl, rfl, hknl, Lib.hid ⟨⟨_, s', _, vw2, vs2, HR2.out, HE2.out, by simp, fun hj => ⟨HF.out.ready hj HLN.out, HL2.out⟩, HKB2.out.1, HKB2.out.2⟩, HRAq.out⟩⟩
  case rest =>
  obtain ⟨en, rfl, HEND⟩ := hcut
  clear x1 g0 g1 lt1 lt2 hpv hpc HPC HTT HPP HST HA2 HTB hrun hmm
  obtain ⟨wE, hwE⟩ : ∃ x : World, x = wc := ⟨_, rfl⟩
  subst hwE
  have hfe := fin_e (f := f) (l := l) (fuel := (fn : Int))
  obtain ⟨fin, hfin⟩ : ∃ x, finF f l fn = x := ⟨_, rfl⟩
  rw [hfin] at HX HEND hfe
  clear hfin
  obtain ⟨S, vw, vs, hrn, hsh⟩ := HEND.out.ex
  have c2 := hrn.c2
  have c4 := hrn.c4
  have c5 := hrn.c5
  have c6 := hrn.c6
  have c7 := hrn.c7
  have f7 := hrn.fz 7
  have ltR := hrn.ltR
  have HB := Lib.hid HEND.out.ra.bel
  have X0 := HEND.out.ra.tb
  have z0 := X0.box.2 0 _ rfl
  have z1 := X0.box.2 1 _ rfl
  have z2 := X0.box.2 2 _ rfl
  have z3 := X0.box.2 3 _ rfl
  have z4 := X0.box.2 4 _ rfl
  have z5 := X0.box.2 5 _ rfl
  have zz := X0.box.1
  have q0 := X0.fz 0
  have q1 := X0.fz 1
  have q2 := X0.fz 2
  have q3 := X0.fz 3
  have q4 := X0.fz 4
  have q5 := X0.fz 5
  have HRN := Lib.hid hrn
  have HSH := Lib.hid hsh
  have hen := HEND.out.is
  have hwR : w.heap.size + 1 ≠ w1.heap.size := by omega
  clear hrn hsh X0 HEND
  cases hst : fin.stuck with
  | true =>
    rw [hst, if_pos rfl] at hen
    subst hen
    have HX2 := Lib.hid (HX.out.trans (outOf_stuck hst))
    clear hst hfe c6 c7 f7
    go_wp2_with fail
    go_region
    all_goals go_wp2_with fail
    have hbs := HB.out.size
    refine bodyPost_ret (v := .tuple #[.agg #[.int .i64 0, .slice none 0 0, .slice none 0 0, .int .i64 fin.steps, .int .i64 fin.s.made, .int .i64 fin.s.work], .int .i64 250]) (by simp [results, Try.results19, go_sem, z0, z1, z2, z3, z4, z5, zz, hwR]) rfl ?_
    rw [HX2.out]
    refine ⟨_, _, rfl, ?_, rints_nil _, rints_nil _⟩
    with_reducible refine Below.drew ?_
    with_reducible refine Below.alloc ?_ ?_ _
    repeat with_reducible refine bel_set _ ?_ ?_
    with_reducible exact HB.out
    all_goals (first | omega | (simp <;> omega))
  | false =>
    rw [hst, if_neg (by decide)] at hen
    have hne := hfe hst
    rw [← hen] at hne
    have k1 : (en == -1) = false := by rw [beq_eq_false_iff_ne]; exact hne
    clear hfe hne
    obtain ⟨wa, wn, wv, rfl⟩ : ∃ a n c, vw = .slice a n c := by
      obtain ⟨a, c, e⟩ := ownsRow_slice HRN.out.ownW
      exact ⟨a, _, c, e⟩
    by_cases h1 : en = 1
    · have k2 : (en != 1) = false := by rw [bne_eq_false_iff_eq]; exact h1
      have HX2 := Lib.hid (HX.out.trans (outOf_done hst (hen ▸ h1)))
      have HS1 := Lib.hid (HSH.out h1)
      obtain ⟨sa, sn, sc, rfl⟩ := rints_slice HS1.out
      have HEN := Lib.hid hen
      clear hst hen h1 HSH
      go_wp2_with fail
      go_region
      all_goals go_wp2_with fail
      go_region
      all_goals go_wp2_with fail
      have hbs := HB.out.size
      refine bodyPost_ret (v := .tuple #[.agg #[.int .i64 en, .slice wa wn wv, .slice sa sn sc, .int .i64 fin.steps, .int .i64 fin.s.made, .int .i64 fin.s.work], .int .i64 0]) (by simp [results, Try.results19, go_sem, z0, z1, z2, z3, z4, z5, zz, hwR]) rfl ?_
      rw [HX2.out, ← HEN.out]
      refine ⟨_, _, rfl, ?_, run_told HRN.out ?_, run_shown HS1.out HRN.out.inS ?_⟩
      · repeat (first | (with_reducible refine Below.drew ?_) | (with_reducible refine bel_set _ ?_ ?_) | (with_reducible refine Below.alloc ?_ ?_ _))
        with_reducible exact HB.out
        all_goals (first | omega | (simp <;> omega))
      · repeat (first | (with_reducible refine kept_drew ?_) | (with_reducible refine kept_set _ ?_ ?_) | (with_reducible refine kept_alloc ?_))
        with_reducible exact Kept.refl _ _
        all_goals simp
      · repeat (first | (with_reducible refine kept_drew ?_) | (with_reducible refine kept_set _ ?_ ?_) | (with_reducible refine kept_alloc ?_))
        with_reducible exact Kept.refl _ _
        all_goals simp
    · have k2 : (en != 1) = true := by rw [bne_iff_ne]; exact h1
      have HX2 := Lib.hid (HX.out.trans (outOf_else hst (hen ▸ h1)))
      have HEN := Lib.hid hen
      clear hst hen h1 HSH
      go_wp2_with fail
      go_region
      all_goals go_wp2_with fail
      go_region
      all_goals go_wp2_with fail
      have hbs := HB.out.size
      refine bodyPost_ret (v := .tuple #[.agg #[.int .i64 en, .slice wa wn wv, .slice none 0 0, .int .i64 fin.steps, .int .i64 fin.s.made, .int .i64 fin.s.work], .int .i64 0]) (by simp [results, Try.results19, go_sem, z0, z1, z2, z3, z4, z5, zz, hwR]) rfl ?_
      rw [HX2.out, ← HEN.out]
      refine ⟨_, _, rfl, ?_, run_told HRN.out ?_, rints_nil _⟩
      · repeat (first | (with_reducible refine Below.drew ?_) | (with_reducible refine bel_set _ ?_ ?_) | (with_reducible refine Below.alloc ?_ ?_ _))
        with_reducible exact HB.out
        all_goals (first | omega | (simp <;> omega))
      · repeat (first | (with_reducible refine kept_drew ?_) | (with_reducible refine kept_set _ ?_ ?_) | (with_reducible refine kept_alloc ?_))
        with_reducible exact Kept.refl _ _
        all_goals simp
end Go.Proofs.Ytimljadlfhccpaa
