/- The document's machine: what stands while a body is run. -/
import Derived.Test.YtimljadlfhccpaaProg
import Derived.Test.YtimljadlfhccpaaMRn
import Derived.Test.YtimljadlfhccpaaMGA
import Derived.Test.YtimljadlfhccpaaMRel
set_option linter.all false
set_option linter.all false
set_option linter.all false
namespace Go.Proofs.Ytimljadlfhccpaa
open Go.RowKit
set_option maxHeartbeats 1000000

theorem infoV : (Try.prog.info? 80).map (fun i => (i.zero, i.size, i.bytes)) = some (some (.pointer none), 1, 8) := by kernel_rfl
theorem zero_V (w : World) : (zeroValue 80).run Try.prog w = .ok (.pointer none) w := by kernel_rfl
/-- Where a body stands: a term, the variables, the machine. -/
structure BAt (m0 : Mp) (R base eb : Nat) (Fb : Option Addr) (Fc : Nat) (f : Flat) (fuel : Int) (steps : Nat) (vs : Value) (vl : List Int) (w : World) (S0 : List Nat) (c k : Nat) (wr : World) (S : List Nat) (tb tof : Nat) (t : Term) (env : Env) (s : St) (vw : Value) : Prop where
  hT : TmAt m0 tb tof t
  ag : Ag m0 wr
  off : ∀ a v, m0 a = some v → a.block < base
  rn : Rn R base Fb Fc f fuel wr S steps s vw vs
  envm : EnvM f.funs.length S wr eb env
  heb : eb ∈ S
  rd : Ready f vl env t
  stb : steps ≤ 1048576
  work : s.work + c ≤ (steps + 1) * 65536
  made : s.made + k ≤ 65 * s.work
  ext : Ext S0 w S wr
  nfb : f.funs.length ≤ 4096
section
variable {m0 : Mp} {R base eb : Nat} {Fb : Option Addr} {Fc : Nat} {f : Flat} {fuel : Int} {steps : Nat} {vs : Value} {vl : List Int} {w wr wx : World} {S0 S S' : List Nat} {c k tb tof : Nat} {t : Term} {env : Env} {s : St} {vw : Value}
theorem BAt.neR (h : BAt m0 R base eb Fb Fc f fuel steps vs vl w S0 c k wr S tb tof t env s vw) : R ≠ eb := by
  intro e
  obtain ⟨es, i1, _⟩ := h.envm.ex
  have hc := h.rn.c0
  unfold World.cell? at hc
  split at hc
  · rename_i hh; exact i1.noCells _ _ _ (e ▸ hh)
  · cases hc
theorem BAt.neRow (h : BAt m0 R base eb Fb Fc f fuel steps vs vl w S0 c k wr S tb tof t env s vw) : vw.ownBlock ≠ some eb := by
  intro e
  obtain ⟨es, i1, _⟩ := h.envm.ex
  rcases h.rn.ownW.2 with ⟨h1, _⟩ | ⟨g, cap, cur, h1, _, hg, _⟩
  · rw [h1] at e; simp [Value.ownBlock] at e
  · rw [h1] at e; simp [Value.ownBlock] at e; subst e; exact i1.noCells _ _ _ hg
theorem BAt.later (h : BAt m0 R base eb Fb Fc f fuel steps vs vl w S0 c k wr S tb tof t env s vw) (hb : Below wr.heap.size wr wx) : BAt m0 R base eb Fb Fc f fuel steps vs vl w S0 c k wx S tb tof t env s vw :=
  ⟨h.hT, h.ag.later hb, h.off, h.rn.later hb, h.envm.later hb, h.heb, h.rd, h.stb, h.work, h.made, h.ext.trans (Ext.below hb), h.nfb⟩
theorem BAt.agS (h : BAt m0 R base eb Fb Fc f fuel steps vs vl w S0 c k wr S tb tof t env s vw) : ∀ a v, m0 a = some v → memB S wr a = some v := by
  intro a v ha
  unfold memB
  rw [if_neg (fun hm => by have := h.off a v ha; have := h.rn.new _ hm; omega)]
  exact h.ag a v ha
theorem BAt.agExt (h : BAt m0 R base eb Fb Fc f fuel steps vs vl w S0 c k wr S tb tof t env s vw) (he : Ext S wr S' wx) : Ag m0 wx := fun a v ha => memB_ag _ _ _ _ (he.mem a v (h.agS a v ha))
/-- The machine's own cells are changed: the rest stands. -/
theorem BAt.set (h : BAt m0 R base eb Fb Fc f fuel steps vs vl w S0 c k wr S tb tof t env s vw) {i : Nat} {u : Value} {c' k' : Nat} {s' : St} (hr : Rn R base Fb Fc f fuel (wr.setCell ⟨R, i, none⟩ u) S steps s' vw vs) (hw : s'.work + c' ≤ (steps + 1) * 65536) (hm : s'.made + k' ≤ 65 * s'.work) :
    BAt m0 R base eb Fb Fc f fuel steps vs vl w S0 c' k' (wr.setCell ⟨R, i, none⟩ u) S tb tof t env s' vw :=
  ⟨h.hT, h.agExt (h.rn.ext i u), h.off, hr, h.envm.ext (h.rn.ext i u) (Below.heap_setCell wr ⟨R, i, none⟩ u eb (fun e => h.neR e.symm)), h.heb, h.rd, h.stb, hw, hm, h.ext.trans (h.rn.ext i u), h.nfb⟩
theorem BAt.workedB (h : BAt m0 R base eb Fb Fc f fuel steps vs vl w S0 (c + 1) 0 wr S tb tof t env s vw) : BAt m0 R base eb Fb Fc f fuel steps vs vl w S0 c 65 (wr.setCell ⟨R, 5, none⟩ (.int .i64 ((s.work : Int) + 1))) S tb tof t env (worked s) vw :=
  h.set (h.rn.set 5 _ rfl (if_neg (by omega)) (if_neg (by omega)) (by rw [if_pos rfl]; simp [worked]) (if_neg (by omega)) (by omega)) (by have := h.work; simp only [worked]; omega) (by have := h.made; simp only [worked]; omega)
theorem BAt.bounds (h : BAt m0 R base eb Fb Fc f fuel steps vs vl w S0 c k wr S tb tof t env s vw) : s.work ≤ 68719542272 ∧ s.made ≤ 4466770247680 := by
  have h1 := h.stb
  have h2 := h.work
  have h3 := h.made
  have : (steps + 1) * 65536 ≤ 1048577 * 65536 := Nat.mul_le_mul_right _ (by omega)
  omega
end
/-- What is in w outside of S and behind block n. -/
def nwB (n : Nat) (S : List Nat) (w : World) : Mp := fun a => if a.block < n then none else memB S w a
theorem nwB_ext {n : Nat} {S S' : List Nat} {w w' : World} (h : Ext S w S' w') : ∀ a v, nwB n S w a = some v → nwB n S' w' a = some v := by
  intro a v ha
  unfold nwB at ha ⊢
  split at ha
  · cases ha
  · rename_i hn
    rw [if_neg hn]
    exact h.mem a v ha
theorem nwB_le {n n' : Nat} {S : List Nat} {w : World} (h : n' ≤ n) : ∀ a v, nwB n S w a = some v → nwB n' S w a = some v := by
  intro a v ha
  unfold nwB at ha ⊢
  split at ha
  · cases ha
  · rw [if_neg (by omega)]; exact ha
/-- What a body comes to. -/
def BodyPost (R base : Nat) (Fb : Option Addr) (Fc : Nat) (f : Flat) (fuel : Int) (steps : Nat) (w : World) (S : List Nat) (o : BOut) (e : Ending) (w' : World) : Prop := ∃ S', Ext S w S' w' ∧ match o with
  | .call l s' => ∃ v vw' vs', e = .returned (.tuple #[v, .int .i64 0]) ∧ Rn R base Fb Fc f fuel w' S' steps s' vw' vs' ∧ RArgs f.funs.length (memB S' w') v l ∧ 0 < l.length
  | .stop st en sh s' => ∃ vw' vs' en', e = .returned (.tuple #[.slice none 0 0, .int .i64 en']) ∧ Rn R base Fb Fc f fuel w' S' steps s' vw' vs' ∧ en' = (if st then -1 else en) ∧ en' ≠ 0 ∧ (en' = 1 → RInts (nwB w.heap.size S' w') vs' sh)
theorem bodyB_stop {t : Term} {env : Env} {s s' : St} {st : Bool} {en : Int} {sh : List Int} (h : stepT t env (worked s) = .stop st en sh s') : bodyT t env s = .stop st en sh s' := by rw [bodyT_eq, h]
theorem bodyB_call {t : Term} {env : Env} {s s' : St} {l : List Val} (h : stepT t env (worked s) = .call l s') : bodyT t env s = .call l s' := by rw [bodyT_eq, h]
section
variable {t : Term} {e : Env} {s : St}
theorem map0 {l : List Atm} {f : Atm → Val} (h : 0 < l.length) : f (l.getD 0 atm0) = (l.map f)[0]'(by simpa using h) := by simp [List.getD_eq_getElem?_getD, h]
theorem map1 {l : List Atm} {f : Atm → Val} (h : 1 < l.length) : f (l.getD 1 atm0) = (l.map f)[1]'(by simpa using h) := by simp [List.getD_eq_getElem?_getD, h]
theorem step_1 (hk : t.kind = 1) : stepT t e s = if (atomV e (t.args.getD 0 atm0)).kind = 1 ∧ (atomV e (t.args.getD 1 atm0)).kind = 1 then (match doOp t.n (atomV e (t.args.getD 0 atm0)).n (atomV e (t.args.getD 1 atm0)).n with | none => .stop false 2 [] s | some r => .next 0 (upd e t.x (primV t.n r)) s) else .stop true 0 [] s := by
  unfold stepT; simp [hk]; rfl
theorem step_2 (hk : t.kind = 2) : stepT t e s = .next 0 (upd e t.x (.mk 2 t.n (t.args.map (atomV e)))) { s with made := s.made + (t.args.length + 1) } := by unfold stepT; simp [hk]
theorem step_9 (hk : t.kind = 9) : stepT t e s = .next 0 (upd e t.x (.mk 3 t.n (t.args.map (atomV e)))) { s with made := s.made + (t.args.length + 1) } := by unfold stepT; simp [hk]
theorem step_3 (hk : t.kind = 3) : stepT t e s = if (atomV e (t.args.getD 0 atm0)).kind = 2 ∧ t.n < (atomV e (t.args.getD 0 atm0)).args.length then .next 0 (upd e t.x ((atomV e (t.args.getD 0 atm0)).args.getD t.n.toNat nov)) s else .stop true 0 [] s := by unfold stepT; simp [hk]
theorem step_10 (hk : t.kind = 10) : stepT t e s = if (atomV e (t.args.getD 0 atm0)).kind = 3 ∧ t.n < (atomV e (t.args.getD 0 atm0)).args.length then .next 0 (upd e t.x ((atomV e (t.args.getD 0 atm0)).args.getD t.n.toNat nov)) s else .stop true 0 [] s := by unfold stepT; simp [hk]
theorem step_5 (hk : t.kind = 5) : stepT t e s = .call (t.args.map (atomV e)) s := by unfold stepT; simp [hk]
theorem step_6 (hk : t.kind = 6) : stepT t e s = if (t.ints = true ∧ (atomV e (t.args.getD 0 atm0)).kind = 1) ∨ (t.ints = false ∧ (atomV e (t.args.getD 0 atm0)).kind = 2) then (if idxOf t.tags (atomV e (t.args.getD 0 atm0)).n < t.next.length then .next (idxOf t.tags (atomV e (t.args.getD 0 atm0)).n) e s else .stop true 0 [] s) else .stop true 0 [] s := by unfold stepT; simp [hk]
theorem step_7 (hk : t.kind = 7) : stepT t e s = if (atomV e (t.args.getD 0 atm0)).kind = 1 then (if s.writes.length = 4096 then .stop false 4 [] s else .next 0 e { s with writes := s.writes ++ [(atomV e (t.args.getD 0 atm0)).n] }) else .stop true 0 [] s := by unfold stepT; simp [hk]
theorem step_8 (hk : t.kind = 8) : stepT t e s = match showV (atomV e (t.args.getD 0 atm0)) [] with | .inl (st, en) => .stop st en [] s | .inr l => .stop false 1 l s := by unfold stepT; simp [hk]; rfl
end

theorem args_at0 {nf : Nat} {m : Mp} {vb : Option Addr} {vc : Nat} {t : Term} {env : Env} (h : RArgs nf m (.slice vb t.args.length vc) (t.args.map (atomV env))) (h0 : 0 < t.args.length) :
    ∃ c o b ab ac, vb = some ⟨c, o, none⟩ ∧ t.args.length ≤ vc ∧ (∀ w, Ag m w → w.cell? ⟨c, o, none⟩ = some (.pointer (some ⟨b, 0, none⟩))) ∧ RVo nf m b (atomV env (t.args.getD 0 atm0)) ab ac ∧ RV nf m (.pointer (some ⟨b, 0, none⟩)) (atomV env (t.args.getD 0 atm0)) := by
  obtain ⟨ab, ac, e, le, bd, hel⟩ := h.open
  injection e with e1 e2 e3
  subst e1; subst e3
  obtain ⟨c, o, q, rfl, hq, hcq⟩ := hel 0 (by simpa using h0)
  obtain ⟨b, ab, ac', rfl, O⟩ := hq.open
  refine ⟨c, o, b, ab, ac', rfl, by simpa using le, fun w hm => by simpa using hcq w hm, ?_⟩
  rw [map0 (f := atomV env) h0]; exact ⟨O, hq⟩
theorem args_at1 {nf : Nat} {m : Mp} {c o : Nat} {vc : Nat} {t : Term} {env : Env} (h : RArgs nf m (.slice (some ⟨c, o, none⟩) t.args.length vc) (t.args.map (atomV env))) (h1 : 1 < t.args.length) :
    ∃ b ab ac, (∀ w, Ag m w → w.cell? ⟨c, o + 1, none⟩ = some (.pointer (some ⟨b, 0, none⟩))) ∧ RVo nf m b (atomV env (t.args.getD 1 atm0)) ab ac := by
  obtain ⟨ab, ac, e, le, bd, hel⟩ := h.open
  injection e with e1 e2 e3
  subst e1; subst e3
  obtain ⟨c, o, q, hv, hq, hcq⟩ := hel 1 (by simpa using h1)
  injection hv with hv
  injection hv with hv1 hv2 _
  subst hv1; subst hv2
  obtain ⟨b, ab, ac', rfl, O⟩ := hq.open
  refine ⟨b, ab, ac', fun w hm => hcq w hm, ?_⟩
  rw [map1 (f := atomV env) h1]; exact O
theorem RVo.at {nf m b v ab ac} (h : RVo nf m b v ab ac) {k : Nat} (hk : k < v.args.length) : ∃ c o q, ab = some ⟨c, o, none⟩ ∧ RV nf m q (v.args.getD k nov) ∧ ∀ w, Ag m w → w.cell? ⟨c, o + k, none⟩ = some q := by
  obtain ⟨c, o, q, h1, h2, h3⟩ := h.arg k hk
  exact ⟨c, o, q, h1, by simpa [List.getD_eq_getElem?_getD, hk] using h2, h3⟩
section
variable {m0 : Mp} {R base eb : Nat} {Fb : Option Addr} {Fc : Nat} {f : Flat} {fuel : Int} {steps : Nat} {vs : Value} {vl : List Int} {w wr wx wy : World} {S0 S S' S2 : List Nat} {c k tb tof : Nat} {t : Term} {env env2 : Env} {s s0 s1 s2 : St} {vw v' : Value} {o : BOut} {j : Nat}
theorem BAt.ends (h : BAt m0 R base eb Fb Fc f fuel steps vs vl w S0 c k wr S tb tof t env s1 vw) {st : Bool} {en en' : Int} (hst : stepT t env (worked s0) = .stop st en [] s1) (ho : bodyT t env s0 = o) (he : en' = (if st then -1 else en)) (h0 : en' ≠ 0) (h1 : en' ≠ 1) :
    BodyPost R base Fb Fc f fuel steps w S0 o (.returned (.tuple #[.slice none 0 0, .int .i64 en'])) wr := by
  rw [← ho, bodyB_stop hst]
  exact ⟨S, h.ext, vw, vs, en', rfl, h.rn, he, h0, fun e => absurd e h1⟩
theorem BAt.calls {v : Value} (h : BAt m0 R base eb Fb Fc f fuel steps vs vl w S0 c k wr S tb tof t env s1 vw) {l : List Val} (hst : stepT t env (worked s0) = .call l s1) (ho : bodyT t env s0 = o) (hl : RArgs f.funs.length (memB S wr) v l) (h0 : 0 < l.length) :
    BodyPost R base Fb Fc f fuel steps w S0 o (.returned (.tuple #[v, .int .i64 0])) wr := by
  rw [← ho, bodyB_call hst]
  exact ⟨S, h.ext, v, vw, vs, rfl, h.rn, hl, h0⟩
theorem BAt.goes (h : BAt m0 R base eb Fb Fc f fuel steps vs vl w S0 (tcount t - 1) 0 wx S2 tb tof t env s2 vw) (hst : stepT t env (worked s0) = .next j env2 s2) (ho : bodyT t env s0 = o) (hj : j < t.next.length)
    (rn : Rn R base Fb Fc f fuel wy S2 steps s2 vw vs) (en : EnvM f.funs.length S2 wy eb env2) (he : Ext S2 wx S2 wy) {b o' : Nat} (hT : TmAt m0 b o' t.next[j]) :
    BAt m0 R base eb Fb Fc f fuel steps vs vl w S0 (tcount t.next[j]) 0 wy S2 b o' t.next[j] env2 s2 vw ∧ bodyT t.next[j] env2 s2 = o ∧ tcount t.next[j] < tcount t := by
  have htc := tcount_next hj
  refine ⟨⟨hT, h.agExt he, h.off, rn, en, h.heb, (stepT_next h.rd hst).2.2.2 hj, h.stb, by have := h.work; omega, h.made, h.ext.trans he, h.nfb⟩, ?_, htc⟩
  rw [← ho]; exact (body_next hst hj).symm
theorem BAt.less (h : BAt m0 R base eb Fb Fc f fuel steps vs vl w S0 c k wr S tb tof t env s vw) {k' : Nat} (hk : k' ≤ k) : BAt m0 R base eb Fb Fc f fuel steps vs vl w S0 c k' wr S tb tof t env s vw :=
  ⟨h.hT, h.ag, h.off, h.rn, h.envm, h.heb, h.rd, h.stb, h.work, by have := h.made; omega, h.ext, h.nfb⟩
theorem BAt.makes (h : BAt m0 R base eb Fb Fc f fuel steps vs vl w S0 c 65 wr S tb tof t env s vw) {n : Nat} (hn : n ≤ 64) : BAt m0 R base eb Fb Fc f fuel steps vs vl w S0 c 0 (wr.setCell ⟨R, 4, none⟩ (.int .i64 ((s.made : Int) + ((n : Int) + 1)))) S tb tof t env { s with made := s.made + (n + 1) } vw :=
  h.set (h.rn.set 4 _ rfl (if_neg (by omega)) (by rw [if_pos rfl]; simp) (if_neg (by omega)) (if_neg (by omega)) (by omega)) h.work (by have := h.made; simp only; omega)
/-- A number more is written. -/
theorem BAt.pushW (h : BAt m0 R base eb Fb Fc f fuel steps vs vl w S0 c k wr S tb tof t env s vw) {x : Int} (hp : Pushed base 3 wr wx vw v' (s.writes.length + 1) (s.writes.map (.int .i64) ++ [.int .i64 x])) (hx : I64 x) (hl : s.writes.length < 4096) :
    BAt m0 R base eb Fb Fc f fuel steps vs vl w S0 c k (wx.setCell ⟨R, 6, none⟩ v') (v'.ownBlock.toList ++ S) tb tof t env { s with writes := s.writes ++ [x] } v' := by
  have hr := h.rn
  have hR := hr.ltR
  have hb : wx.heap[R]? = wr.heap[R]? := hp.gr.block _ hR (fun e => hr.ne e.symm)
  have hc := blk_cell hb
  have hoc : ∀ j, j ≠ 6 → (wx.setCell ⟨R, 6, none⟩ v').cell? ⟨R, j, none⟩ = wr.cell? ⟨R, j, none⟩ := fun j hj => (World.cell?_setCell_other _ _ _ _ (by simp <;> omega)).trans (hc j)
  have hsub : ∀ k ∈ v'.ownBlock.toList ++ S, k ∈ S ∨ wr.heap.size ≤ k := fun k hk => by
    rcases hp.sub S k hk with h2 | h2
    · rcases List.mem_append.1 h2 with h3 | h3
      · exact .inl (hr.rowW k (by simpa using h3))
      · exact .inl h3
    · exact .inr h2
  have hk1 : Kept S wr wx := ⟨hp.gr.os, hp.gr.tape, hp.gr.output, hp.gr.size, fun k hk hs => hp.gr.block k hk (fun e => hs (hr.rowW k e.symm))⟩
  have hk2 : Kept S wr (wx.setCell ⟨R, 6, none⟩ v') := hk1.trans (kept_setCell hr.inS _ _ _)
  have he : Ext S wr (v'.ownBlock.toList ++ S) (wx.setCell ⟨R, 6, none⟩ v') := ⟨hk2, fun k hk => List.mem_append_right _ hk, hsub⟩
  have hnewne : v'.ownBlock ≠ some R := fun e => by
    rcases hp.new R e with h2 | h2
    · exact hr.ne h2
    · omega
  have hebl : (wx.setCell ⟨R, 6, none⟩ v').heap[eb]? = wr.heap[eb]? := (Below.heap_setCell wx ⟨R, 6, none⟩ v' eb (fun e => h.neR e.symm)).trans (hp.gr.block eb h.envm.lt (fun e => h.neRow e.symm))
  refine ⟨h.hT, h.agExt he, h.off, ⟨List.mem_append_right _ hr.inS, fun k hk => ?_, fun k hk => ?_, (hoc 0 (by omega)).trans hr.c0, (hoc 1 (by omega)).trans hr.c1, (hoc 2 (by omega)).trans hr.c2, (hoc 3 (by omega)).trans hr.c3, (hoc 4 (by omega)).trans hr.c4, (hoc 5 (by omega)).trans hr.c5,
    World.cell?_setCell_same _ _ _ ((hc 6).trans hr.c6), (hoc 7 (by omega)).trans hr.c7, fun j => by rw [World.frozen?_setCell]; exact (World.frozen?_of_block (a := ⟨R, j, none⟩) hb).trans (hr.fz j), ?_, fun k hk => List.mem_append_left _ (by rw [hk]; simp), hnewne, ?_, by simp; omega⟩,
    h.envm.ext he hebl, List.mem_append_right _ h.heb, h.rd, h.stb, h.work, h.made, h.ext.trans he, h.nfb⟩
  · rw [size_setCell]
    rcases List.mem_append.1 hk with h2 | h2
    · exact (hp.own.lt k (by simpa using h2)).2
    · exact Nat.lt_of_lt_of_le (hr.lt k h2) hp.gr.size
  · rcases List.mem_append.1 hk with h2 | h2
    · exact (hp.own.lt k (by simpa using h2)).1
    · exact hr.new k h2
  · have := ownsRow_setCell_other (a := ⟨R, 6, none⟩) hp.own hnewne v'
    simpa using this
  · intro y hy
    rcases List.mem_append.1 hy with hy | hy
    · exact hr.i64W y hy
    · simp at hy; subst hy; exact hx
end
/-- What a switch leads to. -/
theorem step_arm {t : Term} {env : Env} {s : St} (hk : t.kind = 6) (hn : t.next.length = t.tags.length ∨ t.next.length = t.tags.length + 1) (num : Bool) (hv : (num = true ∧ (atomV env (t.args.getD 0 atm0)).kind = 1) ∨ (num = false ∧ (atomV env (t.args.getD 0 atm0)).kind = 2)) :
    (armF t num (atomV env (t.args.getD 0 atm0)).n < 0 ∧ stepT t env s = .stop true 0 [] s) ∨ ∃ j : Nat, armF t num (atomV env (t.args.getD 0 atm0)).n = j ∧ j < t.next.length ∧ stepT t env s = .next j env s := by
  rw [step_6 hk]
  generalize atomV env (t.args.getD 0 atm0) = v at hv ⊢
  unfold armF
  have h1 := idx_lt t.tags v.n
  have h2 := idx_ge t.tags v.n
  by_cases he : num = t.ints
  · have hc : (t.ints = true ∧ v.kind = 1) ∨ (t.ints = false ∧ v.kind = 2) := by rw [← he]; exact hv
    rw [if_pos he, if_pos hc]
    by_cases h0 : 0 ≤ idx t.tags v.n
    · have e : idxOf t.tags v.n = (idx t.tags v.n).toNat := by unfold idxOf; rw [if_neg (by omega : ¬ idx t.tags v.n < 0)]
      rw [if_pos h0, e, if_pos (by omega : (idx t.tags v.n).toNat < t.next.length)]
      exact .inr ⟨(idx t.tags v.n).toNat, by omega, by omega, rfl⟩
    · have e : idxOf t.tags v.n = t.tags.length := by unfold idxOf; rw [if_pos (by omega : idx t.tags v.n < 0)]
      rw [if_neg h0, e]
      by_cases h3 : t.next.length = t.tags.length + 1
      · rw [if_pos h3, if_pos (by omega : t.tags.length < t.next.length)]
        exact .inr ⟨t.tags.length, rfl, by omega, rfl⟩
      · rw [if_neg h3, if_neg (by omega : ¬ t.tags.length < t.next.length)]
        exact .inl ⟨by omega, rfl⟩
  · have hc : ¬ ((t.ints = true ∧ v.kind = 1) ∨ (t.ints = false ∧ v.kind = 2)) := by
      rintro (⟨a, b⟩ | ⟨a, b⟩) <;> rcases hv with ⟨x, y⟩ | ⟨x, y⟩
      · exact he (x.trans a.symm)
      · omega
      · omega
      · exact he (x.trans a.symm)
    rw [if_neg he, if_neg hc]
    exact .inl ⟨by omega, rfl⟩
theorem step_arm3 {t : Term} {env : Env} {s : St} (hk : t.kind = 6) (hv : (atomV env (t.args.getD 0 atm0)).kind = 3) : stepT t env s = .stop true 0 [] s := by
  rw [step_6 hk, if_neg (by omega)]
theorem tagged_len {t : Term} (h : taggedB t = true) : (t.next.length = t.tags.length ∨ t.next.length = t.tags.length + 1) ∧ 1 ≤ t.next.length := by
  unfold taggedB at h
  simp only [Bool.and_eq_true, Bool.or_eq_true, decide_eq_true_eq] at h
  exact ⟨h.1.1.1, h.1.1.2⟩
theorem next_tm {m : Mp} {t : Term} {gb gc ab ac fb fc nb nc} (O : Opn m t gb gc ab ac fb fc nb nc) {j : Nat} (hj : j < t.next.length) : ∃ b o, nb = some ⟨b, o, none⟩ ∧ TmAt m b (o + j * 8) t.next[j] := (O.nextAt j hj).tm
theorem next_tm0 {m : Mp} {t : Term} {gb gc ab ac fb fc nb nc} (O : Opn m t gb gc ab ac fb fc nb nc) (hj : 0 < t.next.length) : ∃ b o, nb = some ⟨b, o, none⟩ ∧ TmAt m b o t.next[0] := by
  obtain ⟨b, o, h1, h2⟩ := (O.nextAt 0 hj).tm
  exact ⟨b, o, h1, by simpa using h2⟩
theorem rints_monoB {m m' : Mp} (h : ∀ a v, m a = some v → m' a = some v) {v : Value} {l : List Int} (hr : RInts m v l) : RInts m' v l := ⟨hr.1.mono h, hr.2⟩
theorem rints_memB {S : List Nat} {w : World} {base : Nat} {e : TypeId} {v : Value} {l : List Int} (h : w.ownsRow base e 1 v l.length (l.map (.int .i64))) (hi : ∀ x ∈ l, I64 x) (hn : l.length ≤ 140737488355328) (hS : ∀ k ∈ S, k < base) : RInts (memB S w) v l := by
  refine ⟨?_, hi⟩
  have hcells := h
  rcases h.2 with ⟨rfl, h2⟩ | ⟨g, cap, cur, rfl, hg, _, h3, _⟩
  · rw [h2]; exact ⟨none, 0, rfl, by simp, by simp, by simp⟩
  · refine ⟨some ⟨g, 0, none⟩, cap, rfl, h3, hn, fun h0 => ⟨g, 0, rfl, fun i hi => ⟨rfl, fun j u hj => ?_⟩⟩⟩
    have hj0 : j = 0 := by have := (List.getElem?_eq_some_iff.1 hj).1; simp at this; exact this
    subst hj0
    simp at hj
    subst hj
    have hc := hcells.cells (g := g) rfl i (.int .i64 l[i]) (by simp [hi])
    have ea : (⟨g, 0, none⟩ : Addr).add i = ⟨g, i, none⟩ := by by_cases h : i = 0 <;> simp [Addr.add, h]
    rw [ea] at hc
    unfold memB
    rw [if_neg (fun hm => by have := hS _ hm; simp at this; omega)]
    simp [hi, hc]
theorem rints_nwB {S : List Nat} {w : World} {base : Nat} {e : TypeId} {v : Value} {l : List Int} (h : w.ownsRow base e 1 v l.length (l.map (.int .i64))) (hi : ∀ x ∈ l, I64 x) (hn : l.length ≤ 140737488355328) (hS : ∀ k ∈ S, k < base) {n0 : Nat} (hn0 : n0 ≤ base) : RInts (nwB n0 S w) v l := by
  refine ⟨?_, hi⟩
  have hcells := h
  rcases h.2 with ⟨rfl, h2⟩ | ⟨g, cap, cur, rfl, hg, _, h3, _⟩
  · rw [h2]; exact ⟨none, 0, rfl, by simp, by simp, by simp⟩
  · refine ⟨some ⟨g, 0, none⟩, cap, rfl, h3, hn, fun h0 => ⟨g, 0, rfl, fun i hi => ⟨rfl, fun j u hj => ?_⟩⟩⟩
    have hj0 : j = 0 := by have := (List.getElem?_eq_some_iff.1 hj).1; simp at this; exact this
    subst hj0
    simp at hj
    subst hj
    have hc := hcells.cells (g := g) rfl i (.int .i64 l[i]) (by simp [hi])
    have ea : (⟨g, 0, none⟩ : Addr).add i = ⟨g, i, none⟩ := by by_cases h : i = 0 <;> simp [Addr.add, h]
    rw [ea] at hc
    unfold nwB
    rw [if_neg (by simp; omega)]
    unfold memB
    rw [if_neg (fun hm => by have := hS _ hm; simp at this; omega)]
    simp [hi, hc]
mutual
theorem showV_inl : ∀ (v : Val) (l : List Int) (st : Bool) (en : Int), showV v l = .inl (st, en) → (st = true ∧ en = 0) ∨ (st = false ∧ en = 4)
  | .mk k n args, l, st, en, h => by
    rw [showV] at h
    split at h
    · simp at h; exact .inl ⟨by first | exact h.1 | exact h.1.symm, by omega⟩
    · split at h
      · simp at h; exact .inr ⟨by first | exact h.1 | exact h.1.symm, by omega⟩
      · exact showVs_inl args _ st en h
theorem showVs_inl : ∀ (vs : List Val) (l : List Int) (st : Bool) (en : Int), showVs vs l = .inl (st, en) → (st = true ∧ en = 0) ∨ (st = false ∧ en = 4)
  | [], l, st, en, h => by rw [showVs] at h; cases h
  | v :: r, l, st, en, h => by
    rw [showVs] at h
    split at h
    · rename_i e he
      injection h with h
      subst h
      exact showV_inl v l st en he
    · exact showVs_inl r _ st en h
end

/-- Where the region stands in which a number is written: what is done, and the world. -/
def WJ (W0 W1 : World) (dn : Nat → Bool) (wx : World) : Prop := (dn 12 = true ∨ wx = (if dn 11 then W1 else W0)) ∧ (dn 12 = true → dn 4 = true ∧ dn 11 = true) ∧ (∀ k, 7 ≤ k → k ≤ 10 → dn (k + 1) = true → dn k = true)
theorem WJ.start (W0 W1 : World) : WJ W0 W1 (fun _ => false) W0 := ⟨.inr rfl, fun h => (by cases h), fun _ _ _ h => (by cases h)⟩
section
variable {W0 W1 wx : World} {dn : Nat → Bool}
theorem WJ.other (h : WJ W0 W1 dn wx) {i : Nat} (hi : (i == 11 || i == 12) = false) (hc : ∀ k, i = k + 1 → 7 ≤ k → k ≤ 10 → dn k = true) : WJ W0 W1 (fun k => k == i || dn k) wx := by
  simp only [Bool.or_eq_false_iff, beq_eq_false_iff_ne] at hi
  have e11 : (11 == i) = false := by rw [beq_eq_false_iff_ne]; omega
  have e12 : (12 == i) = false := by rw [beq_eq_false_iff_ne]; omega
  refine ⟨by simpa [e11, e12] using h.1, fun h12 => ?_, fun k h1 h2 hk => ?_⟩
  · have h12 : (12 == i || dn 12) = true := h12
    rw [e12, Bool.false_or] at h12
    obtain ⟨a, b⟩ := h.2.1 h12
    exact ⟨by simp [a], by simp [b]⟩
  · simp only [Bool.or_eq_true, beq_iff_eq] at hk ⊢
    rcases hk with hk | hk
    · exact .inr (hc k hk.symm h1 h2)
    · exact .inr (h.2.2 k h1 h2 hk)
theorem WJ.chain (h : WJ W0 W1 dn wx) (h12 : dn 12 = true) : dn 4 = true ∧ dn 7 = true ∧ dn 10 = true ∧ dn 11 = true := by
  obtain ⟨a, b⟩ := h.2.1 h12
  have c10 := h.2.2 10 (by omega) (by omega) b
  have c9 := h.2.2 9 (by omega) (by omega) c10
  have c8 := h.2.2 8 (by omega) (by omega) c9
  have c7 := h.2.2 7 (by omega) (by omega) c8
  exact ⟨a, c7, c10, b⟩
theorem WJ.no12 (h : WJ W0 W1 dn wx) {i : Nat} (hd : dn i = false) (hi : i = 4 ∨ i = 7 ∨ i = 10 ∨ i = 11) : dn 12 = false := by
  cases h12 : dn 12 with
  | false => rfl
  | true =>
    obtain ⟨a, b, c, d⟩ := h.chain h12
    rcases hi with rfl | rfl | rfl | rfl
    · rw [a] at hd; cases hd
    · rw [b] at hd; cases hd
    · rw [c] at hd; cases hd
    · rw [d] at hd; cases hd
theorem WJ.world (h : WJ W0 W1 dn wx) {i : Nat} (hd : dn i = false) (hi : i = 4 ∨ i = 7 ∨ i = 10 ∨ i = 11) : wx = (if dn 11 then W1 else W0) := h.1.resolve_left (by rw [h.no12 hd hi]; decide)
theorem WJ.world11 (h : WJ W0 W1 dn wx) (hd : dn 11 = false) : wx = W0 := by have := h.world hd (by omega); rwa [hd] at this
theorem WJ.world12 (h : WJ W0 W1 dn wx) (hd : dn 12 = false) (h2 : dn 11 = true) : wx = W1 := by have := h.1.resolve_left (by rw [hd]; decide); rwa [h2] at this
theorem WJ.cell {wM : World} {o : Obj} (h : WJ wM.drew (wM.drew.alloc o) dn wx) {i : Nat} (hd : dn i = false) (hi : i = 4 ∨ i = 7 ∨ i = 10 ∨ i = 11) {a : Addr} {v : Value} (hc : wM.cell? a = some v) : wx.cell? a = some v := by
  rw [h.world hd hi]
  have hlt := World.block_lt_of_cell? wM a hc
  split
  · exact ((below_box wM.drew o).cell (p := a) hlt).trans hc
  · exact hc
theorem WJ.build (h : WJ W0 W1 dn W0) (h10 : dn 10 = true) : WJ W0 W1 (fun k => k == 11 || dn k) W1 := by
  refine ⟨.inr rfl, fun h12 => ?_, fun k h1 h2 hk => ?_⟩
  · have h12' : dn 12 = true := by simpa using h12
    exact ⟨by simp [(h.2.1 h12').1], rfl⟩
  · simp only [Bool.or_eq_true, beq_iff_eq] at hk ⊢
    rcases hk with hk | hk
    · have : k = 10 := by omega
      subst this; exact .inr h10
    · exact .inr (h.2.2 k h1 h2 hk)
theorem WJ.append (h : WJ W0 W1 dn W1) (h4 : dn 4 = true) (h11 : dn 11 = true) {w3 : World} : WJ W0 W1 (fun k => k == 12 || dn k) w3 := by
  refine ⟨.inl rfl, fun _ => ⟨by simp [h4], by simp [h11]⟩, fun k h1 h2 hk => ?_⟩
  simp only [Bool.or_eq_true, beq_iff_eq] at hk ⊢
  rcases hk with hk | hk
  · omega
  · exact .inr (h.2.2 k h1 h2 hk)
end
/-- What the operations of that region tell. -/
def wPost (R base : Nat) (W0 W1 : World) (ao : Option Addr) (cap c o1 n vc b0 : Nat) (x : Int) (ws : List Int) : Nat → Value → World → Prop
  | 0, v, _ => v = .pointer (some ⟨R, 0, none⟩)
  | 1, v, _ => v = .pointer (some ⟨R, 0, none⟩)
  | 2, v, _ => v = .pointer (some ⟨R, 0, none⟩)
  | 3, v, _ => v = .pointer (some ⟨R, 6, none⟩)
  | 4, v, _ => v = .slice ao ws.length cap
  | 5, v, _ => v = .slice (some ⟨c, o1, none⟩) n vc
  | 6, v, _ => v = .pointer (some ⟨c, o1, none⟩)
  | 7, v, _ => v = .pointer (some ⟨b0, 0, none⟩)
  | 8, v, _ => v = .pointer (some ⟨b0, 0, none⟩)
  | 9, v, _ => v = .pointer (some ⟨b0, 1, none⟩)
  | 10, v, _ => v = .int .i64 x
  | 11, v, _ => v = .slice (some ⟨W0.heap.size, 0, none⟩) 1 1
  | 12, v, w => Pushed base 3 W1 w (.slice ao ws.length cap) v (ws.length + 1) (ws.map (.int .i64) ++ [.int .i64 x])
  | _, _, _ => True
theorem wPost_stable {R base : Nat} {W0 W1 : World} {ao : Option Addr} {cap c o1 n vc b0 : Nat} {x : Int} {ws : List Int} {j : Nat} (hj : j ≠ 12) {u : Value} {w w' : World} (h : wPost R base W0 W1 ao cap c o1 n vc b0 x ws j u w) : wPost R base W0 W1 ao cap c o1 n vc b0 x ws j u w' := by
  match j, hj, h with
  | 0, _, h => exact h
  | 1, _, h => exact h
  | 2, _, h => exact h
  | 3, _, h => exact h
  | 4, _, h => exact h
  | 5, _, h => exact h
  | 6, _, h => exact h
  | 7, _, h => exact h
  | 8, _, h => exact h
  | 9, _, h => exact h
  | 10, _, h => exact h
  | 11, _, h => exact h
  | 12, hj, _ => exact absurd rfl hj
  | n + 13, _, _ => trivial
theorem op_push {P : Program} {w : World} {o : Oper} {act : Act} {K : Act → World → Prop} {Q : Exit → Act → World → Prop}
    (hg : o.guard = none) (s x : Operand) {t e : TypeId} (hop : o.op = Op.call { callee := Callee.builtin Builtin.append, args := #[s, x], argTypes := #[t, t] })
    {base : Nat} {i : TypeInfo} {z : Value} {bytes : Nat} (ht : P.underlying t = some (.slice e)) (hi : P.info? e = some i) (hz : i.zero = some z)
    (hsize : i.size = 1) (hby : i.bytes = bytes) (hzs : z.cells.size = 1) {v : Value} {n : Nat} {xs : List Value} (hs : act.eval s = v) (hown : w.ownsRow base e 1 v n xs)
    {a : Addr} {c : Nat} {y : Value} (hx : act.eval x = .slice (some a) 1 c) (hy : w.cell? a = some y) (h1 : y.oneCell' = true) (h63 : n + 1 ≤ maxLen) (hbytes : (n + 1) * bytes ≤ 140737488355328) (hbase : base ≤ w.heap.size)
    (hK : ∀ v' w', Pushed base e w w' v v' (n + 1) (xs ++ [y]) → K (act.put o.dst v') w') : Oper.wp P o act w K Q := by
  obtain ⟨v', w', hrun, r⟩ := run_push (P := P) (ty := o.type) ht hi hz hsize hby hzs hown (c := c) hy h1 h63 hbytes hbase
  unfold Oper.wp
  simp [execOp, hop, resolve, invoke, builtin, hs, hx, hrun, Result.andThen]
  exact hK _ _ r
end Go.Proofs.Ytimljadlfhccpaa
