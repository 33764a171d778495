/- The looker looks at a term: the whole. -/
import Derived.Test.YtimljadlfhccpaaProg
import Derived.Test.YtimljadlfhccpaaME
set_option linter.all false
set_option linter.all false
set_option linter.all false
set_option linter.all false
namespace Go.Proofs.Ytimljadlfhccpaa
open Go.RowKit
set_option maxHeartbeats 2000000

theorem two_boxes {w w1 : World} {c1 c2 : List Value} {t1 t2 : TypeId} (hb : Below ((w.alloc (.cells c1.toArray t1)).alloc (.cells c2.toArray t2)).heap.size ((w.alloc (.cells c1.toArray t1)).alloc (.cells c2.toArray t2)) w1) :
    BoxAt w.heap.size w1 c1 ∧ BoxAt (w.heap.size + 1) w1 c2 := by
  refine ⟨((BoxAt.new w c1 t1).later (below_box _ _)).later hb, ?_⟩
  have h := (BoxAt.new (w.alloc (.cells c1.toArray t1)) c2 t2).later hb
  rwa [World.size_alloc] at h
theorem below_boxes {w w1 : World} {o1 o2 : Obj} (hb : Below ((w.alloc o1).alloc o2).heap.size ((w.alloc o1).alloc o2) w1) : Below w.heap.size w w1 := bgo (bgo (below_box _ _) (below_box _ _)) hb
theorem one_int (w : World) (x : Int) (hx : I64 x) (t : TypeId) : RInts (w.alloc (.cells #[.int .i64 x] t)).cell? (.slice (some ⟨w.heap.size, 0, none⟩) [x].length 1) [x] := by
  refine ⟨⟨some ⟨w.heap.size, 0, none⟩, 1, rfl, by simp, by simp, fun _ => ⟨w.heap.size, 0, rfl, fun i hi => ⟨rfl, fun j v hj => ?_⟩⟩⟩, by simpa using hx⟩
  obtain rfl : i = 0 := by simpa using hi
  have hj0 : j = 0 := by
    have := (List.getElem?_eq_some_iff.1 hj).1
    simpa using this
  subst hj0
  simp at hj
  subst hj
  rw [World.cell?_alloc_at _ _ _ _ rfl]
  rfl
theorem Ag.self (w : World) : Ag w.cell? w := fun _ _ h => h
theorem binds_one {kb mb ab : Nat} {Fb : Option Addr} {nf Fc : Nat} {main : Int} {w : World} {met A : List Int} (hk : Lk kb mb ab Fb nf Fc main w met A) (x : Int) (hx : I64 x) :
    Calls Try.prog 21 #[.pointer (some ⟨kb, 0, none⟩), .slice (some ⟨w.heap.size, 0, none⟩) 1 1] (w.alloc (.cells #[.int .i64 x] 3)) (BindPost kb mb ab Fb nf Fc main (w.alloc (.cells #[.int .i64 x] 3)) (if mayBind met x then some (x :: met, x :: A) else none)) := by
  have h := binds_any (one_int w x hx 3) (Ag.self _) (hk.later (below_box w (.cells #[.int .i64 x] 3)))
  simp only [bindL, List.length_cons, List.length_nil, Nat.zero_add] at h
  exact h
theorem binds_nil {kb mb ab : Nat} {Fb : Option Addr} {nf Fc : Nat} {main : Int} {w : World} {met A : List Int} (hk : Lk kb mb ab Fb nf Fc main w met A) :
    Calls Try.prog 21 #[.pointer (some ⟨kb, 0, none⟩), .slice none 0 0] w (BindPost kb mb ab Fb nf Fc main w (some (met, A))) := by
  have h := binds_any (l := []) (lb := none) (lcap := 0) (RInts.nil w.cell?) (Ag.self _) hk
  simp only [bindL, List.length_nil] at h
  exact h
/-- What 'formed' tells, as it is used here. -/
def FormedSpec (nf : Nat) (main : Int) : Prop := ∀ {m : Mp} {t : Term} {tb tcap ab acap fb fcap nb ncap} (_ : RTerm m [.int .i64 t.kind, .int .i64 t.x, .int .i64 t.n, .bool t.ints, .slice tb t.tags.length tcap, .slice ab t.args.length acap, .slice fb t.funs.length fcap, .slice nb t.next.length ncap] t)
    (_ : Opn m t tb tcap ab acap fb fcap nb ncap) (kb : Nat) (Fb : Option Addr) (Fc : Nat) (w : World) (_ : Ag m w) (_ : kb < w.heap.size)
    (_ : w.cell? ⟨kb, 0, none⟩ = some (.slice Fb nf Fc)) (_ : w.cell? ⟨kb, 1, none⟩ = some (.int .i64 main)),
    Calls Try.prog 36 #[.pointer (some ⟨kb, 0, none⟩), .agg #[.int .i64 t.kind, .int .i64 t.x, .int .i64 t.n, .bool t.ints, .slice tb t.tags.length tcap, .slice ab t.args.length acap, .slice fb t.funs.length fcap, .slice nb t.next.length ncap]] w fun e w' => e = .returned (.bool (formedB nf main t)) ∧ Below w.heap.size w w'
set_option maxRecDepth 100000 in
theorem good_step {nf : Nat} {main : Int} (hf : FormedSpec nf main) (t : Term) (ihn : ∀ s ∈ t.next, GSpec nf main s) : GSpec nf main t := by
  intro m c hr kb mb ab Fb Fc w met A hm hk
  obtain ⟨tb, tcap, ab', acap, fb, fcap, nb, ncap, rfl, O⟩ := hr.opn
  have hkb := hk.lt
  obtain ⟨k1, k2⟩ := hk.kbm
  have hmb := hk.ltm
  have hab := hk.lta
  have HO := Lib.hid O
  have HM := Lib.hid hm
  have HK := Lib.hid hk
  have HR := Lib.hid hr
  have HN := Lib.hid ihn
  have HF := Lib.hid (fun (w' : World) (hb : Below w.heap.size w w') => hf hr O kb Fb Fc w' (hm.later hb) (Nat.lt_of_lt_of_le hkb hb.size) ((hb.cell hkb).trans hk.c0) ((hb.cell hkb).trans hk.c1))
  have n2 := O.nbd
  have hge := Lib.hid (goodT_eq nf main t met A)
  clear hf ihn O hm hk hr
  cases hfm : formedB nf main t with
  | false =>
    have HG : Hid (goodT nf main t met A = none) := Lib.hid (by rw [hge.out, hfm]; rfl)
    rw [hfm] at HF
    clear hfm hge
    go_enter Try.func22, Try.ntmps22
    go_wp2_with (go_at_call 36; refine (HF.out _ ((below_box _ _).alloc (by simp) _)).mono ?_; rintro e w1 ⟨rfl, hb1⟩; have HB1 := Lib.hid hb1; clear hb1)
    go_ret
    exact ⟨by rw [HG.out]; rfl, (Kept.below ((below_box _ _).alloc (by simp) _)).trans (Kept.below HB1.out), fun p hp => by rw [HG.out] at hp; cases hp⟩
  | true =>
    rw [hfm] at HF
    cases hall : t.args.all (atomOk A) with
    | false =>
      have HG : Hid (goodT nf main t met A = none) := Lib.hid (by rw [hge.out, hall]; simp)
      clear hfm hge
      go_enter Try.func22, Try.ntmps22
      go_wp2_with (first | (go_at_call 36; refine (HF.out _ ((below_box _ _).alloc (by simp) _)).mono ?_; rintro e w1 ⟨rfl, hb1⟩; obtain ⟨gb1, gb2⟩ := two_boxes hb1; have HB1 := Lib.hid (below_boxes hb1); have z1 := gb2.1; have g := gb1.2 0 _ rfl; have g0 := gb2.2 0 _ rfl; have g1 := gb2.2 1 _ rfl; have g5 := gb2.2 5 _ rfl; have g7 := gb2.2 7 _ rfl; clear hb1 gb1 gb2) | (go_at_call 37; refine (hasAtom HO.out.args (HM.out.later HB1.out) (HK.out.later HB1.out) (by assumption)).mono ?_; rintro e w2 ⟨rfl, hb2⟩; have HB2 := Lib.hid (bgo HB1.out hb2); have z2 := Nat.lt_of_lt_of_le z1 hb2.size; have z2' := Nat.lt_of_succ_lt z2; have G := (hb2.cell (by exact Nat.lt_of_succ_lt z1)).trans g; have G0 := (hb2.cell (by exact z1)).trans g0; have G1 := (hb2.cell (by exact z1)).trans g1; have G7 := (hb2.cell (by exact z1)).trans g7; clear hb2 g g0 g1 g5 g7))
      go_ret
      exact ⟨by rw [HG.out]; rfl, Kept.below HB2.out, fun p hp => by rw [HG.out] at hp; cases hp⟩
    | true =>
      rw [hfm, hall] at hge
      have HX := Lib.hid HO.out.ix
      have xs : t.kind = 1 ∨ t.kind = 2 ∨ t.kind = 3 ∨ t.kind = 9 ∨ t.kind = 10 ∨ (¬ t.kind = 1 ∧ ¬ t.kind = 2 ∧ ¬ t.kind = 3 ∧ ¬ t.kind = 9 ∧ ¬ t.kind = 10) := by omega
      by_cases hb : bindsB t.kind = true
      · have HTm := Lib.hid (fun (w' : World) (hkp : Kept [mb, ab] w w') (hlk : Lk kb mb ab Fb nf Fc main w' (t.x :: met) (t.x :: A)) (hB : w'.cell? ⟨w.heap.size, 0, none⟩ = some (.pointer (some ⟨kb, 0, none⟩))) => hasTerm HN.out (lcap := ncap) HO.out.nextAt n2 (HM.out.kept hkp HK.out.cells) hlk hB (by simp <;> omega))
        have HBd := Lib.hid (fun (w' : World) (hb : Below w.heap.size w w') => binds_one (HK.out.later hb) t.x HX.out)
        obtain hk1 | hk2 | hk3 | hk9 | hk10 | hno := xs
        · skip
          have q1 : (t.kind == 1) = true := by rw [beq_iff_eq]; exact hk1
          have HG : Hid (goodT nf main t met A = if mayBind met t.x then goodTs nf main t.next (t.x :: met) (t.x :: A) else none) := Lib.hid (by rw [hge.out, Bool.and_self, if_pos rfl, if_pos hb])
          cases hmay : mayBind met t.x with
          | false =>
            rw [hmay, if_neg Bool.false_ne_true] at HBd HG
            clear hfm hge hb hmay hk1
            go_enter Try.func22, Try.ntmps22
            go_wp2_with (first | (go_at_call 36; refine (HF.out _ ((below_box _ _).alloc (by simp) _)).mono ?_; rintro e w1 ⟨rfl, hb1⟩; obtain ⟨gb1, gb2⟩ := two_boxes hb1; have HB1 := Lib.hid (below_boxes hb1); have z1 := gb2.1; have g := gb1.2 0 _ rfl; have g0 := gb2.2 0 _ rfl; have g1 := gb2.2 1 _ rfl; have g5 := gb2.2 5 _ rfl; have g7 := gb2.2 7 _ rfl; clear hb1 gb1 gb2) | (go_at_call 37; refine (hasAtom HO.out.args (HM.out.later HB1.out) (HK.out.later HB1.out) (by assumption)).mono ?_; rintro e w2 ⟨rfl, hb2⟩; have HB2 := Lib.hid (bgo HB1.out hb2); have z2 := Nat.lt_of_lt_of_le z1 hb2.size; have z2' := Nat.lt_of_succ_lt z2; have G := (hb2.cell (by exact Nat.lt_of_succ_lt z1)).trans g; have G0 := (hb2.cell (by exact z1)).trans g0; have G1 := (hb2.cell (by exact z1)).trans g1; have G7 := (hb2.cell (by exact z1)).trans g7; clear hb2 g g0 g1 g5 g7) | (go_at_call 21; refine (HBd.out _ HB2.out).mono ?_; rintro e w3 ⟨rfl, hkp3, hlk3⟩; have HLK3 := Lib.hid hlk3; have HKP3 := Lib.hid ((Kept.below (S := [mb, ab]) (bgo HB2.out (below_box _ _))).trans hkp3); have K := hkp3.cell (p := ⟨w.heap.size, 0, none⟩) ((World.cell?_alloc_lt _ _ _ (show w.heap.size < w2.heap.size from z2')).trans G) (by simp <;> omega); have K7 := hkp3.cell (p := ⟨w.heap.size + 1, 7, none⟩) ((World.cell?_alloc_lt _ _ _ (show w.heap.size + 1 < w2.heap.size from z2)).trans G7) (by simp <;> omega); have KX := hkp3.cell (p := ⟨w2.heap.size, 0, none⟩) (World.cell?_alloc_at (w := w2) #[.int .i64 t.x] 3 w2.heap.size 0 rfl) (by simp <;> omega); have L2 : w2.heap.size < w3.heap.size := Nat.lt_of_lt_of_le (by simp) hkp3.size; clear hkp3 hlk3 G G0 G1 G7))
            go_ret
            exact ⟨by rw [HG.out]; rfl, HKP3.out, fun p hp => by rw [HG.out] at hp; cases hp⟩
          | true =>
            have hxA : Hid (t.x ∉ A) := Lib.hid (fun hx => by have := HK.out.sub _ hx; simp [mayBind, this] at hmay)
            rw [hmay, if_pos rfl] at HBd HG
            cases hgt : goodTs nf main t.next (t.x :: met) (t.x :: A) with
            | none =>
              rw [hgt] at HTm HG
              clear hfm hge hb hmay hk1 hgt
              go_enter Try.func22, Try.ntmps22
              go_wp2_with (first | (go_at_call 36; refine (HF.out _ ((below_box _ _).alloc (by simp) _)).mono ?_; rintro e w1 ⟨rfl, hb1⟩; obtain ⟨gb1, gb2⟩ := two_boxes hb1; have HB1 := Lib.hid (below_boxes hb1); have z1 := gb2.1; have g := gb1.2 0 _ rfl; have g0 := gb2.2 0 _ rfl; have g1 := gb2.2 1 _ rfl; have g5 := gb2.2 5 _ rfl; have g7 := gb2.2 7 _ rfl; clear hb1 gb1 gb2) | (go_at_call 37; refine (hasAtom HO.out.args (HM.out.later HB1.out) (HK.out.later HB1.out) (by assumption)).mono ?_; rintro e w2 ⟨rfl, hb2⟩; have HB2 := Lib.hid (bgo HB1.out hb2); have z2 := Nat.lt_of_lt_of_le z1 hb2.size; have z2' := Nat.lt_of_succ_lt z2; have G := (hb2.cell (by exact Nat.lt_of_succ_lt z1)).trans g; have G0 := (hb2.cell (by exact z1)).trans g0; have G1 := (hb2.cell (by exact z1)).trans g1; have G7 := (hb2.cell (by exact z1)).trans g7; clear hb2 g g0 g1 g5 g7) | (go_at_call 21; refine (HBd.out _ HB2.out).mono ?_; rintro e w3 ⟨rfl, hkp3, hlk3⟩; have HLK3 := Lib.hid hlk3; have HKP3 := Lib.hid ((Kept.below (S := [mb, ab]) (bgo HB2.out (below_box _ _))).trans hkp3); have K := hkp3.cell (p := ⟨w.heap.size, 0, none⟩) ((World.cell?_alloc_lt _ _ _ (show w.heap.size < w2.heap.size from z2')).trans G) (by simp <;> omega); have K7 := hkp3.cell (p := ⟨w.heap.size + 1, 7, none⟩) ((World.cell?_alloc_lt _ _ _ (show w.heap.size + 1 < w2.heap.size from z2)).trans G7) (by simp <;> omega); have KX := hkp3.cell (p := ⟨w2.heap.size, 0, none⟩) (World.cell?_alloc_at (w := w2) #[.int .i64 t.x] 3 w2.heap.size 0 rfl) (by simp <;> omega); have L2 : w2.heap.size < w3.heap.size := Nat.lt_of_lt_of_le (by simp) hkp3.size; clear hkp3 hlk3 G G0 G1 G7) | (go_at_call 40; refine (HTm.out _ HKP3.out (HLK3.out _ rfl) (by assumption)).mono ?_; rintro e w4 ⟨rfl, hkp4, hlk4⟩; have HLK4 := Lib.hid hlk4; have HKP4 := Lib.hid (HKP3.out.trans hkp4); have KX4 := hkp4.cell KX (by simp <;> omega); have G4 := hkp4.cell K (by simp <;> omega); clear hkp4 hlk4 K K7 KX))
              go_ret
              exact ⟨by rw [HG.out]; rfl, HKP4.out, fun p hp => by rw [HG.out] at hp; cases hp⟩
            | some met3 =>
              rw [hgt] at HTm HG
              clear hfm hge hb hmay hk1 hgt
              go_enter Try.func22, Try.ntmps22
              go_wp2_with (first | (go_at_call 36; refine (HF.out _ ((below_box _ _).alloc (by simp) _)).mono ?_; rintro e w1 ⟨rfl, hb1⟩; obtain ⟨gb1, gb2⟩ := two_boxes hb1; have HB1 := Lib.hid (below_boxes hb1); have z1 := gb2.1; have g := gb1.2 0 _ rfl; have g0 := gb2.2 0 _ rfl; have g1 := gb2.2 1 _ rfl; have g5 := gb2.2 5 _ rfl; have g7 := gb2.2 7 _ rfl; clear hb1 gb1 gb2) | (go_at_call 37; refine (hasAtom HO.out.args (HM.out.later HB1.out) (HK.out.later HB1.out) (by assumption)).mono ?_; rintro e w2 ⟨rfl, hb2⟩; have HB2 := Lib.hid (bgo HB1.out hb2); have z2 := Nat.lt_of_lt_of_le z1 hb2.size; have z2' := Nat.lt_of_succ_lt z2; have G := (hb2.cell (by exact Nat.lt_of_succ_lt z1)).trans g; have G0 := (hb2.cell (by exact z1)).trans g0; have G1 := (hb2.cell (by exact z1)).trans g1; have G7 := (hb2.cell (by exact z1)).trans g7; clear hb2 g g0 g1 g5 g7) | (go_at_call 21; refine (HBd.out _ HB2.out).mono ?_; rintro e w3 ⟨rfl, hkp3, hlk3⟩; have HLK3 := Lib.hid hlk3; have HKP3 := Lib.hid ((Kept.below (S := [mb, ab]) (bgo HB2.out (below_box _ _))).trans hkp3); have K := hkp3.cell (p := ⟨w.heap.size, 0, none⟩) ((World.cell?_alloc_lt _ _ _ (show w.heap.size < w2.heap.size from z2')).trans G) (by simp <;> omega); have K7 := hkp3.cell (p := ⟨w.heap.size + 1, 7, none⟩) ((World.cell?_alloc_lt _ _ _ (show w.heap.size + 1 < w2.heap.size from z2)).trans G7) (by simp <;> omega); have KX := hkp3.cell (p := ⟨w2.heap.size, 0, none⟩) (World.cell?_alloc_at (w := w2) #[.int .i64 t.x] 3 w2.heap.size 0 rfl) (by simp <;> omega); have L2 : w2.heap.size < w3.heap.size := Nat.lt_of_lt_of_le (by simp) hkp3.size; clear hkp3 hlk3 G G0 G1 G7) | (go_at_call 40; refine (HTm.out _ HKP3.out (HLK3.out _ rfl) (by assumption)).mono ?_; rintro e w4 ⟨rfl, hkp4, hlk4⟩; have HLK4 := Lib.hid hlk4; have HKP4 := Lib.hid (HKP3.out.trans hkp4); have KX4 := hkp4.cell KX (by simp <;> omega); have G4 := hkp4.cell K (by simp <;> omega); clear hkp4 hlk4 K K7 KX))
              go_loopg [41] 1 (fun g i wr => (g = 1 ∧ i = .int .i64 0 ∧ wr = w4) ∨ (g = 0 ∧ i = .int .i64 1 ∧ Hid (Kept [mb, ab] w wr) ∧ Hid (Lk kb mb ab Fb nf Fc main wr met3 A)))
              case atStart => exact Or.inl ⟨rfl, rfl, rfl⟩
              case round =>
                rcases hrel with ⟨rfl, rfl, rfl⟩ | ⟨rfl, rfl, hkp, hlk⟩
                · have L4 := HLK4.out _ rfl
                  obtain ⟨c0, c1, c2, c3, ne, sub, ⟨esm, Im, Mm⟩, ⟨esa, Ia, Ma⟩⟩ := L4
                  have MA := Lib.hid Ma
                  have hax := Ma t.x
                  rw [show (t.x :: A).contains t.x = true by simp, if_pos rfl] at hax
                  have MM := Lib.hid Mm
                  have Kb := G4
                  clear Ma Mm
                  go_wp2_with (first | (at_lookup; refine wpList_lookup_I rfl _ _ _ _ _ _ rfl Try.underlying53 Try.underlying3 zero_int rfl _ rfl (by assumption) ?_) | (at_mapUpdate; refine wpList_mapUpdate_I (b := ab) rfl _ _ _ _ _ _ rfl Try.underlying53 Try.underlying3 rfl _ rfl (by assumption) ?_; intro w5 hI5 hg5 hz5))
                  go_roundg 0
                  case measure => omega
                  case rel =>
                    have hk5 : Kept [mb, ab] wr w5 := Kept.grown hg5 (by simp)
                    exact Or.inr ⟨rfl, by go_num, HKP4.out.trans hk5, ⟨hk5.cell c0 (by simp [k1, k2]), hk5.cell c1 (by simp [k1, k2]), hk5.cell c2 (by simp [k1, k2]), hk5.cell c3 (by simp [k1, k2]), ne, fun x hx => sub x (List.mem_cons_of_mem _ hx), ⟨_, Im.same (hg5.block mb Im.lt (by simp [ne])), MM.out⟩, ⟨_, hI5, MA.out.del hxA.out⟩⟩⟩
                · go_wp2_with fail
                  go_ret
                  exact ⟨by rw [HG.out]; rfl, hkp.out, fun p hp => by rw [HG.out] at hp; injection hp with hp; subst hp; exact hlk.out⟩
        · skip
          have q1 : (t.kind == 1) = false := by rw [beq_eq_false_iff_ne]; omega
          have q2 : (t.kind == 2) = true := by rw [beq_iff_eq]; exact hk2
          have HG : Hid (goodT nf main t met A = if mayBind met t.x then goodTs nf main t.next (t.x :: met) (t.x :: A) else none) := Lib.hid (by rw [hge.out, Bool.and_self, if_pos rfl, if_pos hb])
          cases hmay : mayBind met t.x with
          | false =>
            rw [hmay, if_neg Bool.false_ne_true] at HBd HG
            clear hfm hge hb hmay hk2
            go_enter Try.func22, Try.ntmps22
            go_wp2_with (first | (go_at_call 36; refine (HF.out _ ((below_box _ _).alloc (by simp) _)).mono ?_; rintro e w1 ⟨rfl, hb1⟩; obtain ⟨gb1, gb2⟩ := two_boxes hb1; have HB1 := Lib.hid (below_boxes hb1); have z1 := gb2.1; have g := gb1.2 0 _ rfl; have g0 := gb2.2 0 _ rfl; have g1 := gb2.2 1 _ rfl; have g5 := gb2.2 5 _ rfl; have g7 := gb2.2 7 _ rfl; clear hb1 gb1 gb2) | (go_at_call 37; refine (hasAtom HO.out.args (HM.out.later HB1.out) (HK.out.later HB1.out) (by assumption)).mono ?_; rintro e w2 ⟨rfl, hb2⟩; have HB2 := Lib.hid (bgo HB1.out hb2); have z2 := Nat.lt_of_lt_of_le z1 hb2.size; have z2' := Nat.lt_of_succ_lt z2; have G := (hb2.cell (by exact Nat.lt_of_succ_lt z1)).trans g; have G0 := (hb2.cell (by exact z1)).trans g0; have G1 := (hb2.cell (by exact z1)).trans g1; have G7 := (hb2.cell (by exact z1)).trans g7; clear hb2 g g0 g1 g5 g7) | (go_at_call 21; refine (HBd.out _ HB2.out).mono ?_; rintro e w3 ⟨rfl, hkp3, hlk3⟩; have HLK3 := Lib.hid hlk3; have HKP3 := Lib.hid ((Kept.below (S := [mb, ab]) (bgo HB2.out (below_box _ _))).trans hkp3); have K := hkp3.cell (p := ⟨w.heap.size, 0, none⟩) ((World.cell?_alloc_lt _ _ _ (show w.heap.size < w2.heap.size from z2')).trans G) (by simp <;> omega); have K7 := hkp3.cell (p := ⟨w.heap.size + 1, 7, none⟩) ((World.cell?_alloc_lt _ _ _ (show w.heap.size + 1 < w2.heap.size from z2)).trans G7) (by simp <;> omega); have KX := hkp3.cell (p := ⟨w2.heap.size, 0, none⟩) (World.cell?_alloc_at (w := w2) #[.int .i64 t.x] 3 w2.heap.size 0 rfl) (by simp <;> omega); have L2 : w2.heap.size < w3.heap.size := Nat.lt_of_lt_of_le (by simp) hkp3.size; clear hkp3 hlk3 G G0 G1 G7))
            go_ret
            exact ⟨by rw [HG.out]; rfl, HKP3.out, fun p hp => by rw [HG.out] at hp; cases hp⟩
          | true =>
            have hxA : Hid (t.x ∉ A) := Lib.hid (fun hx => by have := HK.out.sub _ hx; simp [mayBind, this] at hmay)
            rw [hmay, if_pos rfl] at HBd HG
            cases hgt : goodTs nf main t.next (t.x :: met) (t.x :: A) with
            | none =>
              rw [hgt] at HTm HG
              clear hfm hge hb hmay hk2 hgt
              go_enter Try.func22, Try.ntmps22
              go_wp2_with (first | (go_at_call 36; refine (HF.out _ ((below_box _ _).alloc (by simp) _)).mono ?_; rintro e w1 ⟨rfl, hb1⟩; obtain ⟨gb1, gb2⟩ := two_boxes hb1; have HB1 := Lib.hid (below_boxes hb1); have z1 := gb2.1; have g := gb1.2 0 _ rfl; have g0 := gb2.2 0 _ rfl; have g1 := gb2.2 1 _ rfl; have g5 := gb2.2 5 _ rfl; have g7 := gb2.2 7 _ rfl; clear hb1 gb1 gb2) | (go_at_call 37; refine (hasAtom HO.out.args (HM.out.later HB1.out) (HK.out.later HB1.out) (by assumption)).mono ?_; rintro e w2 ⟨rfl, hb2⟩; have HB2 := Lib.hid (bgo HB1.out hb2); have z2 := Nat.lt_of_lt_of_le z1 hb2.size; have z2' := Nat.lt_of_succ_lt z2; have G := (hb2.cell (by exact Nat.lt_of_succ_lt z1)).trans g; have G0 := (hb2.cell (by exact z1)).trans g0; have G1 := (hb2.cell (by exact z1)).trans g1; have G7 := (hb2.cell (by exact z1)).trans g7; clear hb2 g g0 g1 g5 g7) | (go_at_call 21; refine (HBd.out _ HB2.out).mono ?_; rintro e w3 ⟨rfl, hkp3, hlk3⟩; have HLK3 := Lib.hid hlk3; have HKP3 := Lib.hid ((Kept.below (S := [mb, ab]) (bgo HB2.out (below_box _ _))).trans hkp3); have K := hkp3.cell (p := ⟨w.heap.size, 0, none⟩) ((World.cell?_alloc_lt _ _ _ (show w.heap.size < w2.heap.size from z2')).trans G) (by simp <;> omega); have K7 := hkp3.cell (p := ⟨w.heap.size + 1, 7, none⟩) ((World.cell?_alloc_lt _ _ _ (show w.heap.size + 1 < w2.heap.size from z2)).trans G7) (by simp <;> omega); have KX := hkp3.cell (p := ⟨w2.heap.size, 0, none⟩) (World.cell?_alloc_at (w := w2) #[.int .i64 t.x] 3 w2.heap.size 0 rfl) (by simp <;> omega); have L2 : w2.heap.size < w3.heap.size := Nat.lt_of_lt_of_le (by simp) hkp3.size; clear hkp3 hlk3 G G0 G1 G7) | (go_at_call 40; refine (HTm.out _ HKP3.out (HLK3.out _ rfl) (by assumption)).mono ?_; rintro e w4 ⟨rfl, hkp4, hlk4⟩; have HLK4 := Lib.hid hlk4; have HKP4 := Lib.hid (HKP3.out.trans hkp4); have KX4 := hkp4.cell KX (by simp <;> omega); have G4 := hkp4.cell K (by simp <;> omega); clear hkp4 hlk4 K K7 KX))
              go_ret
              exact ⟨by rw [HG.out]; rfl, HKP4.out, fun p hp => by rw [HG.out] at hp; cases hp⟩
            | some met3 =>
              rw [hgt] at HTm HG
              clear hfm hge hb hmay hk2 hgt
              go_enter Try.func22, Try.ntmps22
              go_wp2_with (first | (go_at_call 36; refine (HF.out _ ((below_box _ _).alloc (by simp) _)).mono ?_; rintro e w1 ⟨rfl, hb1⟩; obtain ⟨gb1, gb2⟩ := two_boxes hb1; have HB1 := Lib.hid (below_boxes hb1); have z1 := gb2.1; have g := gb1.2 0 _ rfl; have g0 := gb2.2 0 _ rfl; have g1 := gb2.2 1 _ rfl; have g5 := gb2.2 5 _ rfl; have g7 := gb2.2 7 _ rfl; clear hb1 gb1 gb2) | (go_at_call 37; refine (hasAtom HO.out.args (HM.out.later HB1.out) (HK.out.later HB1.out) (by assumption)).mono ?_; rintro e w2 ⟨rfl, hb2⟩; have HB2 := Lib.hid (bgo HB1.out hb2); have z2 := Nat.lt_of_lt_of_le z1 hb2.size; have z2' := Nat.lt_of_succ_lt z2; have G := (hb2.cell (by exact Nat.lt_of_succ_lt z1)).trans g; have G0 := (hb2.cell (by exact z1)).trans g0; have G1 := (hb2.cell (by exact z1)).trans g1; have G7 := (hb2.cell (by exact z1)).trans g7; clear hb2 g g0 g1 g5 g7) | (go_at_call 21; refine (HBd.out _ HB2.out).mono ?_; rintro e w3 ⟨rfl, hkp3, hlk3⟩; have HLK3 := Lib.hid hlk3; have HKP3 := Lib.hid ((Kept.below (S := [mb, ab]) (bgo HB2.out (below_box _ _))).trans hkp3); have K := hkp3.cell (p := ⟨w.heap.size, 0, none⟩) ((World.cell?_alloc_lt _ _ _ (show w.heap.size < w2.heap.size from z2')).trans G) (by simp <;> omega); have K7 := hkp3.cell (p := ⟨w.heap.size + 1, 7, none⟩) ((World.cell?_alloc_lt _ _ _ (show w.heap.size + 1 < w2.heap.size from z2)).trans G7) (by simp <;> omega); have KX := hkp3.cell (p := ⟨w2.heap.size, 0, none⟩) (World.cell?_alloc_at (w := w2) #[.int .i64 t.x] 3 w2.heap.size 0 rfl) (by simp <;> omega); have L2 : w2.heap.size < w3.heap.size := Nat.lt_of_lt_of_le (by simp) hkp3.size; clear hkp3 hlk3 G G0 G1 G7) | (go_at_call 40; refine (HTm.out _ HKP3.out (HLK3.out _ rfl) (by assumption)).mono ?_; rintro e w4 ⟨rfl, hkp4, hlk4⟩; have HLK4 := Lib.hid hlk4; have HKP4 := Lib.hid (HKP3.out.trans hkp4); have KX4 := hkp4.cell KX (by simp <;> omega); have G4 := hkp4.cell K (by simp <;> omega); clear hkp4 hlk4 K K7 KX))
              go_loopg [41] 1 (fun g i wr => (g = 1 ∧ i = .int .i64 0 ∧ wr = w4) ∨ (g = 0 ∧ i = .int .i64 1 ∧ Hid (Kept [mb, ab] w wr) ∧ Hid (Lk kb mb ab Fb nf Fc main wr met3 A)))
              case atStart => exact Or.inl ⟨rfl, rfl, rfl⟩
              case round =>
                rcases hrel with ⟨rfl, rfl, rfl⟩ | ⟨rfl, rfl, hkp, hlk⟩
                · have L4 := HLK4.out _ rfl
                  obtain ⟨c0, c1, c2, c3, ne, sub, ⟨esm, Im, Mm⟩, ⟨esa, Ia, Ma⟩⟩ := L4
                  have MA := Lib.hid Ma
                  have hax := Ma t.x
                  rw [show (t.x :: A).contains t.x = true by simp, if_pos rfl] at hax
                  have MM := Lib.hid Mm
                  have Kb := G4
                  clear Ma Mm
                  go_wp2_with (first | (at_lookup; refine wpList_lookup_I rfl _ _ _ _ _ _ rfl Try.underlying53 Try.underlying3 zero_int rfl _ rfl (by assumption) ?_) | (at_mapUpdate; refine wpList_mapUpdate_I (b := ab) rfl _ _ _ _ _ _ rfl Try.underlying53 Try.underlying3 rfl _ rfl (by assumption) ?_; intro w5 hI5 hg5 hz5))
                  go_roundg 0
                  case measure => omega
                  case rel =>
                    have hk5 : Kept [mb, ab] wr w5 := Kept.grown hg5 (by simp)
                    exact Or.inr ⟨rfl, by go_num, HKP4.out.trans hk5, ⟨hk5.cell c0 (by simp [k1, k2]), hk5.cell c1 (by simp [k1, k2]), hk5.cell c2 (by simp [k1, k2]), hk5.cell c3 (by simp [k1, k2]), ne, fun x hx => sub x (List.mem_cons_of_mem _ hx), ⟨_, Im.same (hg5.block mb Im.lt (by simp [ne])), MM.out⟩, ⟨_, hI5, MA.out.del hxA.out⟩⟩⟩
                · go_wp2_with fail
                  go_ret
                  exact ⟨by rw [HG.out]; rfl, hkp.out, fun p hp => by rw [HG.out] at hp; injection hp with hp; subst hp; exact hlk.out⟩
        · skip
          have q1 : (t.kind == 1) = false := by rw [beq_eq_false_iff_ne]; omega
          have q2 : (t.kind == 2) = false := by rw [beq_eq_false_iff_ne]; omega
          have q3 : (t.kind == 3) = true := by rw [beq_iff_eq]; exact hk3
          have HG : Hid (goodT nf main t met A = if mayBind met t.x then goodTs nf main t.next (t.x :: met) (t.x :: A) else none) := Lib.hid (by rw [hge.out, Bool.and_self, if_pos rfl, if_pos hb])
          cases hmay : mayBind met t.x with
          | false =>
            rw [hmay, if_neg Bool.false_ne_true] at HBd HG
            clear hfm hge hb hmay hk3
            go_enter Try.func22, Try.ntmps22
            go_wp2_with (first | (go_at_call 36; refine (HF.out _ ((below_box _ _).alloc (by simp) _)).mono ?_; rintro e w1 ⟨rfl, hb1⟩; obtain ⟨gb1, gb2⟩ := two_boxes hb1; have HB1 := Lib.hid (below_boxes hb1); have z1 := gb2.1; have g := gb1.2 0 _ rfl; have g0 := gb2.2 0 _ rfl; have g1 := gb2.2 1 _ rfl; have g5 := gb2.2 5 _ rfl; have g7 := gb2.2 7 _ rfl; clear hb1 gb1 gb2) | (go_at_call 37; refine (hasAtom HO.out.args (HM.out.later HB1.out) (HK.out.later HB1.out) (by assumption)).mono ?_; rintro e w2 ⟨rfl, hb2⟩; have HB2 := Lib.hid (bgo HB1.out hb2); have z2 := Nat.lt_of_lt_of_le z1 hb2.size; have z2' := Nat.lt_of_succ_lt z2; have G := (hb2.cell (by exact Nat.lt_of_succ_lt z1)).trans g; have G0 := (hb2.cell (by exact z1)).trans g0; have G1 := (hb2.cell (by exact z1)).trans g1; have G7 := (hb2.cell (by exact z1)).trans g7; clear hb2 g g0 g1 g5 g7) | (go_at_call 21; refine (HBd.out _ HB2.out).mono ?_; rintro e w3 ⟨rfl, hkp3, hlk3⟩; have HLK3 := Lib.hid hlk3; have HKP3 := Lib.hid ((Kept.below (S := [mb, ab]) (bgo HB2.out (below_box _ _))).trans hkp3); have K := hkp3.cell (p := ⟨w.heap.size, 0, none⟩) ((World.cell?_alloc_lt _ _ _ (show w.heap.size < w2.heap.size from z2')).trans G) (by simp <;> omega); have K7 := hkp3.cell (p := ⟨w.heap.size + 1, 7, none⟩) ((World.cell?_alloc_lt _ _ _ (show w.heap.size + 1 < w2.heap.size from z2)).trans G7) (by simp <;> omega); have KX := hkp3.cell (p := ⟨w2.heap.size, 0, none⟩) (World.cell?_alloc_at (w := w2) #[.int .i64 t.x] 3 w2.heap.size 0 rfl) (by simp <;> omega); have L2 : w2.heap.size < w3.heap.size := Nat.lt_of_lt_of_le (by simp) hkp3.size; clear hkp3 hlk3 G G0 G1 G7))
            go_ret
            exact ⟨by rw [HG.out]; rfl, HKP3.out, fun p hp => by rw [HG.out] at hp; cases hp⟩
          | true =>
            have hxA : Hid (t.x ∉ A) := Lib.hid (fun hx => by have := HK.out.sub _ hx; simp [mayBind, this] at hmay)
            rw [hmay, if_pos rfl] at HBd HG
            cases hgt : goodTs nf main t.next (t.x :: met) (t.x :: A) with
            | none =>
              rw [hgt] at HTm HG
              clear hfm hge hb hmay hk3 hgt
              go_enter Try.func22, Try.ntmps22
              go_wp2_with (first | (go_at_call 36; refine (HF.out _ ((below_box _ _).alloc (by simp) _)).mono ?_; rintro e w1 ⟨rfl, hb1⟩; obtain ⟨gb1, gb2⟩ := two_boxes hb1; have HB1 := Lib.hid (below_boxes hb1); have z1 := gb2.1; have g := gb1.2 0 _ rfl; have g0 := gb2.2 0 _ rfl; have g1 := gb2.2 1 _ rfl; have g5 := gb2.2 5 _ rfl; have g7 := gb2.2 7 _ rfl; clear hb1 gb1 gb2) | (go_at_call 37; refine (hasAtom HO.out.args (HM.out.later HB1.out) (HK.out.later HB1.out) (by assumption)).mono ?_; rintro e w2 ⟨rfl, hb2⟩; have HB2 := Lib.hid (bgo HB1.out hb2); have z2 := Nat.lt_of_lt_of_le z1 hb2.size; have z2' := Nat.lt_of_succ_lt z2; have G := (hb2.cell (by exact Nat.lt_of_succ_lt z1)).trans g; have G0 := (hb2.cell (by exact z1)).trans g0; have G1 := (hb2.cell (by exact z1)).trans g1; have G7 := (hb2.cell (by exact z1)).trans g7; clear hb2 g g0 g1 g5 g7) | (go_at_call 21; refine (HBd.out _ HB2.out).mono ?_; rintro e w3 ⟨rfl, hkp3, hlk3⟩; have HLK3 := Lib.hid hlk3; have HKP3 := Lib.hid ((Kept.below (S := [mb, ab]) (bgo HB2.out (below_box _ _))).trans hkp3); have K := hkp3.cell (p := ⟨w.heap.size, 0, none⟩) ((World.cell?_alloc_lt _ _ _ (show w.heap.size < w2.heap.size from z2')).trans G) (by simp <;> omega); have K7 := hkp3.cell (p := ⟨w.heap.size + 1, 7, none⟩) ((World.cell?_alloc_lt _ _ _ (show w.heap.size + 1 < w2.heap.size from z2)).trans G7) (by simp <;> omega); have KX := hkp3.cell (p := ⟨w2.heap.size, 0, none⟩) (World.cell?_alloc_at (w := w2) #[.int .i64 t.x] 3 w2.heap.size 0 rfl) (by simp <;> omega); have L2 : w2.heap.size < w3.heap.size := Nat.lt_of_lt_of_le (by simp) hkp3.size; clear hkp3 hlk3 G G0 G1 G7) | (go_at_call 40; refine (HTm.out _ HKP3.out (HLK3.out _ rfl) (by assumption)).mono ?_; rintro e w4 ⟨rfl, hkp4, hlk4⟩; have HLK4 := Lib.hid hlk4; have HKP4 := Lib.hid (HKP3.out.trans hkp4); have KX4 := hkp4.cell KX (by simp <;> omega); have G4 := hkp4.cell K (by simp <;> omega); clear hkp4 hlk4 K K7 KX))
              go_ret
              exact ⟨by rw [HG.out]; rfl, HKP4.out, fun p hp => by rw [HG.out] at hp; cases hp⟩
            | some met3 =>
              rw [hgt] at HTm HG
              clear hfm hge hb hmay hk3 hgt
              go_enter Try.func22, Try.ntmps22
              go_wp2_with (first | (go_at_call 36; refine (HF.out _ ((below_box _ _).alloc (by simp) _)).mono ?_; rintro e w1 ⟨rfl, hb1⟩; obtain ⟨gb1, gb2⟩ := two_boxes hb1; have HB1 := Lib.hid (below_boxes hb1); have z1 := gb2.1; have g := gb1.2 0 _ rfl; have g0 := gb2.2 0 _ rfl; have g1 := gb2.2 1 _ rfl; have g5 := gb2.2 5 _ rfl; have g7 := gb2.2 7 _ rfl; clear hb1 gb1 gb2) | (go_at_call 37; refine (hasAtom HO.out.args (HM.out.later HB1.out) (HK.out.later HB1.out) (by assumption)).mono ?_; rintro e w2 ⟨rfl, hb2⟩; have HB2 := Lib.hid (bgo HB1.out hb2); have z2 := Nat.lt_of_lt_of_le z1 hb2.size; have z2' := Nat.lt_of_succ_lt z2; have G := (hb2.cell (by exact Nat.lt_of_succ_lt z1)).trans g; have G0 := (hb2.cell (by exact z1)).trans g0; have G1 := (hb2.cell (by exact z1)).trans g1; have G7 := (hb2.cell (by exact z1)).trans g7; clear hb2 g g0 g1 g5 g7) | (go_at_call 21; refine (HBd.out _ HB2.out).mono ?_; rintro e w3 ⟨rfl, hkp3, hlk3⟩; have HLK3 := Lib.hid hlk3; have HKP3 := Lib.hid ((Kept.below (S := [mb, ab]) (bgo HB2.out (below_box _ _))).trans hkp3); have K := hkp3.cell (p := ⟨w.heap.size, 0, none⟩) ((World.cell?_alloc_lt _ _ _ (show w.heap.size < w2.heap.size from z2')).trans G) (by simp <;> omega); have K7 := hkp3.cell (p := ⟨w.heap.size + 1, 7, none⟩) ((World.cell?_alloc_lt _ _ _ (show w.heap.size + 1 < w2.heap.size from z2)).trans G7) (by simp <;> omega); have KX := hkp3.cell (p := ⟨w2.heap.size, 0, none⟩) (World.cell?_alloc_at (w := w2) #[.int .i64 t.x] 3 w2.heap.size 0 rfl) (by simp <;> omega); have L2 : w2.heap.size < w3.heap.size := Nat.lt_of_lt_of_le (by simp) hkp3.size; clear hkp3 hlk3 G G0 G1 G7) | (go_at_call 40; refine (HTm.out _ HKP3.out (HLK3.out _ rfl) (by assumption)).mono ?_; rintro e w4 ⟨rfl, hkp4, hlk4⟩; have HLK4 := Lib.hid hlk4; have HKP4 := Lib.hid (HKP3.out.trans hkp4); have KX4 := hkp4.cell KX (by simp <;> omega); have G4 := hkp4.cell K (by simp <;> omega); clear hkp4 hlk4 K K7 KX))
              go_loopg [41] 1 (fun g i wr => (g = 1 ∧ i = .int .i64 0 ∧ wr = w4) ∨ (g = 0 ∧ i = .int .i64 1 ∧ Hid (Kept [mb, ab] w wr) ∧ Hid (Lk kb mb ab Fb nf Fc main wr met3 A)))
              case atStart => exact Or.inl ⟨rfl, rfl, rfl⟩
              case round =>
                rcases hrel with ⟨rfl, rfl, rfl⟩ | ⟨rfl, rfl, hkp, hlk⟩
                · have L4 := HLK4.out _ rfl
                  obtain ⟨c0, c1, c2, c3, ne, sub, ⟨esm, Im, Mm⟩, ⟨esa, Ia, Ma⟩⟩ := L4
                  have MA := Lib.hid Ma
                  have hax := Ma t.x
                  rw [show (t.x :: A).contains t.x = true by simp, if_pos rfl] at hax
                  have MM := Lib.hid Mm
                  have Kb := G4
                  clear Ma Mm
                  go_wp2_with (first | (at_lookup; refine wpList_lookup_I rfl _ _ _ _ _ _ rfl Try.underlying53 Try.underlying3 zero_int rfl _ rfl (by assumption) ?_) | (at_mapUpdate; refine wpList_mapUpdate_I (b := ab) rfl _ _ _ _ _ _ rfl Try.underlying53 Try.underlying3 rfl _ rfl (by assumption) ?_; intro w5 hI5 hg5 hz5))
                  go_roundg 0
                  case measure => omega
                  case rel =>
                    have hk5 : Kept [mb, ab] wr w5 := Kept.grown hg5 (by simp)
                    exact Or.inr ⟨rfl, by go_num, HKP4.out.trans hk5, ⟨hk5.cell c0 (by simp [k1, k2]), hk5.cell c1 (by simp [k1, k2]), hk5.cell c2 (by simp [k1, k2]), hk5.cell c3 (by simp [k1, k2]), ne, fun x hx => sub x (List.mem_cons_of_mem _ hx), ⟨_, Im.same (hg5.block mb Im.lt (by simp [ne])), MM.out⟩, ⟨_, hI5, MA.out.del hxA.out⟩⟩⟩
                · go_wp2_with fail
                  go_ret
                  exact ⟨by rw [HG.out]; rfl, hkp.out, fun p hp => by rw [HG.out] at hp; injection hp with hp; subst hp; exact hlk.out⟩
        · skip
          have q1 : (t.kind == 1) = false := by rw [beq_eq_false_iff_ne]; omega
          have q2 : (t.kind == 2) = false := by rw [beq_eq_false_iff_ne]; omega
          have q3 : (t.kind == 3) = false := by rw [beq_eq_false_iff_ne]; omega
          have q9 : (t.kind == 9) = true := by rw [beq_iff_eq]; exact hk9
          have HG : Hid (goodT nf main t met A = if mayBind met t.x then goodTs nf main t.next (t.x :: met) (t.x :: A) else none) := Lib.hid (by rw [hge.out, Bool.and_self, if_pos rfl, if_pos hb])
          cases hmay : mayBind met t.x with
          | false =>
            rw [hmay, if_neg Bool.false_ne_true] at HBd HG
            clear hfm hge hb hmay hk9
            go_enter Try.func22, Try.ntmps22
            go_wp2_with (first | (go_at_call 36; refine (HF.out _ ((below_box _ _).alloc (by simp) _)).mono ?_; rintro e w1 ⟨rfl, hb1⟩; obtain ⟨gb1, gb2⟩ := two_boxes hb1; have HB1 := Lib.hid (below_boxes hb1); have z1 := gb2.1; have g := gb1.2 0 _ rfl; have g0 := gb2.2 0 _ rfl; have g1 := gb2.2 1 _ rfl; have g5 := gb2.2 5 _ rfl; have g7 := gb2.2 7 _ rfl; clear hb1 gb1 gb2) | (go_at_call 37; refine (hasAtom HO.out.args (HM.out.later HB1.out) (HK.out.later HB1.out) (by assumption)).mono ?_; rintro e w2 ⟨rfl, hb2⟩; have HB2 := Lib.hid (bgo HB1.out hb2); have z2 := Nat.lt_of_lt_of_le z1 hb2.size; have z2' := Nat.lt_of_succ_lt z2; have G := (hb2.cell (by exact Nat.lt_of_succ_lt z1)).trans g; have G0 := (hb2.cell (by exact z1)).trans g0; have G1 := (hb2.cell (by exact z1)).trans g1; have G7 := (hb2.cell (by exact z1)).trans g7; clear hb2 g g0 g1 g5 g7) | (go_at_call 21; refine (HBd.out _ HB2.out).mono ?_; rintro e w3 ⟨rfl, hkp3, hlk3⟩; have HLK3 := Lib.hid hlk3; have HKP3 := Lib.hid ((Kept.below (S := [mb, ab]) (bgo HB2.out (below_box _ _))).trans hkp3); have K := hkp3.cell (p := ⟨w.heap.size, 0, none⟩) ((World.cell?_alloc_lt _ _ _ (show w.heap.size < w2.heap.size from z2')).trans G) (by simp <;> omega); have K7 := hkp3.cell (p := ⟨w.heap.size + 1, 7, none⟩) ((World.cell?_alloc_lt _ _ _ (show w.heap.size + 1 < w2.heap.size from z2)).trans G7) (by simp <;> omega); have KX := hkp3.cell (p := ⟨w2.heap.size, 0, none⟩) (World.cell?_alloc_at (w := w2) #[.int .i64 t.x] 3 w2.heap.size 0 rfl) (by simp <;> omega); have L2 : w2.heap.size < w3.heap.size := Nat.lt_of_lt_of_le (by simp) hkp3.size; clear hkp3 hlk3 G G0 G1 G7))
            go_ret
            exact ⟨by rw [HG.out]; rfl, HKP3.out, fun p hp => by rw [HG.out] at hp; cases hp⟩
          | true =>
            have hxA : Hid (t.x ∉ A) := Lib.hid (fun hx => by have := HK.out.sub _ hx; simp [mayBind, this] at hmay)
            rw [hmay, if_pos rfl] at HBd HG
            cases hgt : goodTs nf main t.next (t.x :: met) (t.x :: A) with
            | none =>
              rw [hgt] at HTm HG
              clear hfm hge hb hmay hk9 hgt
              go_enter Try.func22, Try.ntmps22
              go_wp2_with (first | (go_at_call 36; refine (HF.out _ ((below_box _ _).alloc (by simp) _)).mono ?_; rintro e w1 ⟨rfl, hb1⟩; obtain ⟨gb1, gb2⟩ := two_boxes hb1; have HB1 := Lib.hid (below_boxes hb1); have z1 := gb2.1; have g := gb1.2 0 _ rfl; have g0 := gb2.2 0 _ rfl; have g1 := gb2.2 1 _ rfl; have g5 := gb2.2 5 _ rfl; have g7 := gb2.2 7 _ rfl; clear hb1 gb1 gb2) | (go_at_call 37; refine (hasAtom HO.out.args (HM.out.later HB1.out) (HK.out.later HB1.out) (by assumption)).mono ?_; rintro e w2 ⟨rfl, hb2⟩; have HB2 := Lib.hid (bgo HB1.out hb2); have z2 := Nat.lt_of_lt_of_le z1 hb2.size; have z2' := Nat.lt_of_succ_lt z2; have G := (hb2.cell (by exact Nat.lt_of_succ_lt z1)).trans g; have G0 := (hb2.cell (by exact z1)).trans g0; have G1 := (hb2.cell (by exact z1)).trans g1; have G7 := (hb2.cell (by exact z1)).trans g7; clear hb2 g g0 g1 g5 g7) | (go_at_call 21; refine (HBd.out _ HB2.out).mono ?_; rintro e w3 ⟨rfl, hkp3, hlk3⟩; have HLK3 := Lib.hid hlk3; have HKP3 := Lib.hid ((Kept.below (S := [mb, ab]) (bgo HB2.out (below_box _ _))).trans hkp3); have K := hkp3.cell (p := ⟨w.heap.size, 0, none⟩) ((World.cell?_alloc_lt _ _ _ (show w.heap.size < w2.heap.size from z2')).trans G) (by simp <;> omega); have K7 := hkp3.cell (p := ⟨w.heap.size + 1, 7, none⟩) ((World.cell?_alloc_lt _ _ _ (show w.heap.size + 1 < w2.heap.size from z2)).trans G7) (by simp <;> omega); have KX := hkp3.cell (p := ⟨w2.heap.size, 0, none⟩) (World.cell?_alloc_at (w := w2) #[.int .i64 t.x] 3 w2.heap.size 0 rfl) (by simp <;> omega); have L2 : w2.heap.size < w3.heap.size := Nat.lt_of_lt_of_le (by simp) hkp3.size; clear hkp3 hlk3 G G0 G1 G7) | (go_at_call 40; refine (HTm.out _ HKP3.out (HLK3.out _ rfl) (by assumption)).mono ?_; rintro e w4 ⟨rfl, hkp4, hlk4⟩; have HLK4 := Lib.hid hlk4; have HKP4 := Lib.hid (HKP3.out.trans hkp4); have KX4 := hkp4.cell KX (by simp <;> omega); have G4 := hkp4.cell K (by simp <;> omega); clear hkp4 hlk4 K K7 KX))
              go_ret
              exact ⟨by rw [HG.out]; rfl, HKP4.out, fun p hp => by rw [HG.out] at hp; cases hp⟩
            | some met3 =>
              rw [hgt] at HTm HG
              clear hfm hge hb hmay hk9 hgt
              go_enter Try.func22, Try.ntmps22
              go_wp2_with (first | (go_at_call 36; refine (HF.out _ ((below_box _ _).alloc (by simp) _)).mono ?_; rintro e w1 ⟨rfl, hb1⟩; obtain ⟨gb1, gb2⟩ := two_boxes hb1; have HB1 := Lib.hid (below_boxes hb1); have z1 := gb2.1; have g := gb1.2 0 _ rfl; have g0 := gb2.2 0 _ rfl; have g1 := gb2.2 1 _ rfl; have g5 := gb2.2 5 _ rfl; have g7 := gb2.2 7 _ rfl; clear hb1 gb1 gb2) | (go_at_call 37; refine (hasAtom HO.out.args (HM.out.later HB1.out) (HK.out.later HB1.out) (by assumption)).mono ?_; rintro e w2 ⟨rfl, hb2⟩; have HB2 := Lib.hid (bgo HB1.out hb2); have z2 := Nat.lt_of_lt_of_le z1 hb2.size; have z2' := Nat.lt_of_succ_lt z2; have G := (hb2.cell (by exact Nat.lt_of_succ_lt z1)).trans g; have G0 := (hb2.cell (by exact z1)).trans g0; have G1 := (hb2.cell (by exact z1)).trans g1; have G7 := (hb2.cell (by exact z1)).trans g7; clear hb2 g g0 g1 g5 g7) | (go_at_call 21; refine (HBd.out _ HB2.out).mono ?_; rintro e w3 ⟨rfl, hkp3, hlk3⟩; have HLK3 := Lib.hid hlk3; have HKP3 := Lib.hid ((Kept.below (S := [mb, ab]) (bgo HB2.out (below_box _ _))).trans hkp3); have K := hkp3.cell (p := ⟨w.heap.size, 0, none⟩) ((World.cell?_alloc_lt _ _ _ (show w.heap.size < w2.heap.size from z2')).trans G) (by simp <;> omega); have K7 := hkp3.cell (p := ⟨w.heap.size + 1, 7, none⟩) ((World.cell?_alloc_lt _ _ _ (show w.heap.size + 1 < w2.heap.size from z2)).trans G7) (by simp <;> omega); have KX := hkp3.cell (p := ⟨w2.heap.size, 0, none⟩) (World.cell?_alloc_at (w := w2) #[.int .i64 t.x] 3 w2.heap.size 0 rfl) (by simp <;> omega); have L2 : w2.heap.size < w3.heap.size := Nat.lt_of_lt_of_le (by simp) hkp3.size; clear hkp3 hlk3 G G0 G1 G7) | (go_at_call 40; refine (HTm.out _ HKP3.out (HLK3.out _ rfl) (by assumption)).mono ?_; rintro e w4 ⟨rfl, hkp4, hlk4⟩; have HLK4 := Lib.hid hlk4; have HKP4 := Lib.hid (HKP3.out.trans hkp4); have KX4 := hkp4.cell KX (by simp <;> omega); have G4 := hkp4.cell K (by simp <;> omega); clear hkp4 hlk4 K K7 KX))
              go_loopg [41] 1 (fun g i wr => (g = 1 ∧ i = .int .i64 0 ∧ wr = w4) ∨ (g = 0 ∧ i = .int .i64 1 ∧ Hid (Kept [mb, ab] w wr) ∧ Hid (Lk kb mb ab Fb nf Fc main wr met3 A)))
              case atStart => exact Or.inl ⟨rfl, rfl, rfl⟩
              case round =>
                rcases hrel with ⟨rfl, rfl, rfl⟩ | ⟨rfl, rfl, hkp, hlk⟩
                · have L4 := HLK4.out _ rfl
                  obtain ⟨c0, c1, c2, c3, ne, sub, ⟨esm, Im, Mm⟩, ⟨esa, Ia, Ma⟩⟩ := L4
                  have MA := Lib.hid Ma
                  have hax := Ma t.x
                  rw [show (t.x :: A).contains t.x = true by simp, if_pos rfl] at hax
                  have MM := Lib.hid Mm
                  have Kb := G4
                  clear Ma Mm
                  go_wp2_with (first | (at_lookup; refine wpList_lookup_I rfl _ _ _ _ _ _ rfl Try.underlying53 Try.underlying3 zero_int rfl _ rfl (by assumption) ?_) | (at_mapUpdate; refine wpList_mapUpdate_I (b := ab) rfl _ _ _ _ _ _ rfl Try.underlying53 Try.underlying3 rfl _ rfl (by assumption) ?_; intro w5 hI5 hg5 hz5))
                  go_roundg 0
                  case measure => omega
                  case rel =>
                    have hk5 : Kept [mb, ab] wr w5 := Kept.grown hg5 (by simp)
                    exact Or.inr ⟨rfl, by go_num, HKP4.out.trans hk5, ⟨hk5.cell c0 (by simp [k1, k2]), hk5.cell c1 (by simp [k1, k2]), hk5.cell c2 (by simp [k1, k2]), hk5.cell c3 (by simp [k1, k2]), ne, fun x hx => sub x (List.mem_cons_of_mem _ hx), ⟨_, Im.same (hg5.block mb Im.lt (by simp [ne])), MM.out⟩, ⟨_, hI5, MA.out.del hxA.out⟩⟩⟩
                · go_wp2_with fail
                  go_ret
                  exact ⟨by rw [HG.out]; rfl, hkp.out, fun p hp => by rw [HG.out] at hp; injection hp with hp; subst hp; exact hlk.out⟩
        · skip
          have q1 : (t.kind == 1) = false := by rw [beq_eq_false_iff_ne]; omega
          have q2 : (t.kind == 2) = false := by rw [beq_eq_false_iff_ne]; omega
          have q3 : (t.kind == 3) = false := by rw [beq_eq_false_iff_ne]; omega
          have q9 : (t.kind == 9) = false := by rw [beq_eq_false_iff_ne]; omega
          have q10 : (t.kind == 10) = true := by rw [beq_iff_eq]; exact hk10
          have HG : Hid (goodT nf main t met A = if mayBind met t.x then goodTs nf main t.next (t.x :: met) (t.x :: A) else none) := Lib.hid (by rw [hge.out, Bool.and_self, if_pos rfl, if_pos hb])
          cases hmay : mayBind met t.x with
          | false =>
            rw [hmay, if_neg Bool.false_ne_true] at HBd HG
            clear hfm hge hb hmay hk10
            go_enter Try.func22, Try.ntmps22
            go_wp2_with (first | (go_at_call 36; refine (HF.out _ ((below_box _ _).alloc (by simp) _)).mono ?_; rintro e w1 ⟨rfl, hb1⟩; obtain ⟨gb1, gb2⟩ := two_boxes hb1; have HB1 := Lib.hid (below_boxes hb1); have z1 := gb2.1; have g := gb1.2 0 _ rfl; have g0 := gb2.2 0 _ rfl; have g1 := gb2.2 1 _ rfl; have g5 := gb2.2 5 _ rfl; have g7 := gb2.2 7 _ rfl; clear hb1 gb1 gb2) | (go_at_call 37; refine (hasAtom HO.out.args (HM.out.later HB1.out) (HK.out.later HB1.out) (by assumption)).mono ?_; rintro e w2 ⟨rfl, hb2⟩; have HB2 := Lib.hid (bgo HB1.out hb2); have z2 := Nat.lt_of_lt_of_le z1 hb2.size; have z2' := Nat.lt_of_succ_lt z2; have G := (hb2.cell (by exact Nat.lt_of_succ_lt z1)).trans g; have G0 := (hb2.cell (by exact z1)).trans g0; have G1 := (hb2.cell (by exact z1)).trans g1; have G7 := (hb2.cell (by exact z1)).trans g7; clear hb2 g g0 g1 g5 g7) | (go_at_call 21; refine (HBd.out _ HB2.out).mono ?_; rintro e w3 ⟨rfl, hkp3, hlk3⟩; have HLK3 := Lib.hid hlk3; have HKP3 := Lib.hid ((Kept.below (S := [mb, ab]) (bgo HB2.out (below_box _ _))).trans hkp3); have K := hkp3.cell (p := ⟨w.heap.size, 0, none⟩) ((World.cell?_alloc_lt _ _ _ (show w.heap.size < w2.heap.size from z2')).trans G) (by simp <;> omega); have K7 := hkp3.cell (p := ⟨w.heap.size + 1, 7, none⟩) ((World.cell?_alloc_lt _ _ _ (show w.heap.size + 1 < w2.heap.size from z2)).trans G7) (by simp <;> omega); have KX := hkp3.cell (p := ⟨w2.heap.size, 0, none⟩) (World.cell?_alloc_at (w := w2) #[.int .i64 t.x] 3 w2.heap.size 0 rfl) (by simp <;> omega); have L2 : w2.heap.size < w3.heap.size := Nat.lt_of_lt_of_le (by simp) hkp3.size; clear hkp3 hlk3 G G0 G1 G7))
            go_ret
            exact ⟨by rw [HG.out]; rfl, HKP3.out, fun p hp => by rw [HG.out] at hp; cases hp⟩
          | true =>
            have hxA : Hid (t.x ∉ A) := Lib.hid (fun hx => by have := HK.out.sub _ hx; simp [mayBind, this] at hmay)
            rw [hmay, if_pos rfl] at HBd HG
            cases hgt : goodTs nf main t.next (t.x :: met) (t.x :: A) with
            | none =>
              rw [hgt] at HTm HG
              clear hfm hge hb hmay hk10 hgt
              go_enter Try.func22, Try.ntmps22
              go_wp2_with (first | (go_at_call 36; refine (HF.out _ ((below_box _ _).alloc (by simp) _)).mono ?_; rintro e w1 ⟨rfl, hb1⟩; obtain ⟨gb1, gb2⟩ := two_boxes hb1; have HB1 := Lib.hid (below_boxes hb1); have z1 := gb2.1; have g := gb1.2 0 _ rfl; have g0 := gb2.2 0 _ rfl; have g1 := gb2.2 1 _ rfl; have g5 := gb2.2 5 _ rfl; have g7 := gb2.2 7 _ rfl; clear hb1 gb1 gb2) | (go_at_call 37; refine (hasAtom HO.out.args (HM.out.later HB1.out) (HK.out.later HB1.out) (by assumption)).mono ?_; rintro e w2 ⟨rfl, hb2⟩; have HB2 := Lib.hid (bgo HB1.out hb2); have z2 := Nat.lt_of_lt_of_le z1 hb2.size; have z2' := Nat.lt_of_succ_lt z2; have G := (hb2.cell (by exact Nat.lt_of_succ_lt z1)).trans g; have G0 := (hb2.cell (by exact z1)).trans g0; have G1 := (hb2.cell (by exact z1)).trans g1; have G7 := (hb2.cell (by exact z1)).trans g7; clear hb2 g g0 g1 g5 g7) | (go_at_call 21; refine (HBd.out _ HB2.out).mono ?_; rintro e w3 ⟨rfl, hkp3, hlk3⟩; have HLK3 := Lib.hid hlk3; have HKP3 := Lib.hid ((Kept.below (S := [mb, ab]) (bgo HB2.out (below_box _ _))).trans hkp3); have K := hkp3.cell (p := ⟨w.heap.size, 0, none⟩) ((World.cell?_alloc_lt _ _ _ (show w.heap.size < w2.heap.size from z2')).trans G) (by simp <;> omega); have K7 := hkp3.cell (p := ⟨w.heap.size + 1, 7, none⟩) ((World.cell?_alloc_lt _ _ _ (show w.heap.size + 1 < w2.heap.size from z2)).trans G7) (by simp <;> omega); have KX := hkp3.cell (p := ⟨w2.heap.size, 0, none⟩) (World.cell?_alloc_at (w := w2) #[.int .i64 t.x] 3 w2.heap.size 0 rfl) (by simp <;> omega); have L2 : w2.heap.size < w3.heap.size := Nat.lt_of_lt_of_le (by simp) hkp3.size; clear hkp3 hlk3 G G0 G1 G7) | (go_at_call 40; refine (HTm.out _ HKP3.out (HLK3.out _ rfl) (by assumption)).mono ?_; rintro e w4 ⟨rfl, hkp4, hlk4⟩; have HLK4 := Lib.hid hlk4; have HKP4 := Lib.hid (HKP3.out.trans hkp4); have KX4 := hkp4.cell KX (by simp <;> omega); have G4 := hkp4.cell K (by simp <;> omega); clear hkp4 hlk4 K K7 KX))
              go_ret
              exact ⟨by rw [HG.out]; rfl, HKP4.out, fun p hp => by rw [HG.out] at hp; cases hp⟩
            | some met3 =>
              rw [hgt] at HTm HG
              clear hfm hge hb hmay hk10 hgt
              go_enter Try.func22, Try.ntmps22
              go_wp2_with (first | (go_at_call 36; refine (HF.out _ ((below_box _ _).alloc (by simp) _)).mono ?_; rintro e w1 ⟨rfl, hb1⟩; obtain ⟨gb1, gb2⟩ := two_boxes hb1; have HB1 := Lib.hid (below_boxes hb1); have z1 := gb2.1; have g := gb1.2 0 _ rfl; have g0 := gb2.2 0 _ rfl; have g1 := gb2.2 1 _ rfl; have g5 := gb2.2 5 _ rfl; have g7 := gb2.2 7 _ rfl; clear hb1 gb1 gb2) | (go_at_call 37; refine (hasAtom HO.out.args (HM.out.later HB1.out) (HK.out.later HB1.out) (by assumption)).mono ?_; rintro e w2 ⟨rfl, hb2⟩; have HB2 := Lib.hid (bgo HB1.out hb2); have z2 := Nat.lt_of_lt_of_le z1 hb2.size; have z2' := Nat.lt_of_succ_lt z2; have G := (hb2.cell (by exact Nat.lt_of_succ_lt z1)).trans g; have G0 := (hb2.cell (by exact z1)).trans g0; have G1 := (hb2.cell (by exact z1)).trans g1; have G7 := (hb2.cell (by exact z1)).trans g7; clear hb2 g g0 g1 g5 g7) | (go_at_call 21; refine (HBd.out _ HB2.out).mono ?_; rintro e w3 ⟨rfl, hkp3, hlk3⟩; have HLK3 := Lib.hid hlk3; have HKP3 := Lib.hid ((Kept.below (S := [mb, ab]) (bgo HB2.out (below_box _ _))).trans hkp3); have K := hkp3.cell (p := ⟨w.heap.size, 0, none⟩) ((World.cell?_alloc_lt _ _ _ (show w.heap.size < w2.heap.size from z2')).trans G) (by simp <;> omega); have K7 := hkp3.cell (p := ⟨w.heap.size + 1, 7, none⟩) ((World.cell?_alloc_lt _ _ _ (show w.heap.size + 1 < w2.heap.size from z2)).trans G7) (by simp <;> omega); have KX := hkp3.cell (p := ⟨w2.heap.size, 0, none⟩) (World.cell?_alloc_at (w := w2) #[.int .i64 t.x] 3 w2.heap.size 0 rfl) (by simp <;> omega); have L2 : w2.heap.size < w3.heap.size := Nat.lt_of_lt_of_le (by simp) hkp3.size; clear hkp3 hlk3 G G0 G1 G7) | (go_at_call 40; refine (HTm.out _ HKP3.out (HLK3.out _ rfl) (by assumption)).mono ?_; rintro e w4 ⟨rfl, hkp4, hlk4⟩; have HLK4 := Lib.hid hlk4; have HKP4 := Lib.hid (HKP3.out.trans hkp4); have KX4 := hkp4.cell KX (by simp <;> omega); have G4 := hkp4.cell K (by simp <;> omega); clear hkp4 hlk4 K K7 KX))
              go_loopg [41] 1 (fun g i wr => (g = 1 ∧ i = .int .i64 0 ∧ wr = w4) ∨ (g = 0 ∧ i = .int .i64 1 ∧ Hid (Kept [mb, ab] w wr) ∧ Hid (Lk kb mb ab Fb nf Fc main wr met3 A)))
              case atStart => exact Or.inl ⟨rfl, rfl, rfl⟩
              case round =>
                rcases hrel with ⟨rfl, rfl, rfl⟩ | ⟨rfl, rfl, hkp, hlk⟩
                · have L4 := HLK4.out _ rfl
                  obtain ⟨c0, c1, c2, c3, ne, sub, ⟨esm, Im, Mm⟩, ⟨esa, Ia, Ma⟩⟩ := L4
                  have MA := Lib.hid Ma
                  have hax := Ma t.x
                  rw [show (t.x :: A).contains t.x = true by simp, if_pos rfl] at hax
                  have MM := Lib.hid Mm
                  have Kb := G4
                  clear Ma Mm
                  go_wp2_with (first | (at_lookup; refine wpList_lookup_I rfl _ _ _ _ _ _ rfl Try.underlying53 Try.underlying3 zero_int rfl _ rfl (by assumption) ?_) | (at_mapUpdate; refine wpList_mapUpdate_I (b := ab) rfl _ _ _ _ _ _ rfl Try.underlying53 Try.underlying3 rfl _ rfl (by assumption) ?_; intro w5 hI5 hg5 hz5))
                  go_roundg 0
                  case measure => omega
                  case rel =>
                    have hk5 : Kept [mb, ab] wr w5 := Kept.grown hg5 (by simp)
                    exact Or.inr ⟨rfl, by go_num, HKP4.out.trans hk5, ⟨hk5.cell c0 (by simp [k1, k2]), hk5.cell c1 (by simp [k1, k2]), hk5.cell c2 (by simp [k1, k2]), hk5.cell c3 (by simp [k1, k2]), ne, fun x hx => sub x (List.mem_cons_of_mem _ hx), ⟨_, Im.same (hg5.block mb Im.lt (by simp [ne])), MM.out⟩, ⟨_, hI5, MA.out.del hxA.out⟩⟩⟩
                · go_wp2_with fail
                  go_ret
                  exact ⟨by rw [HG.out]; rfl, hkp.out, fun p hp => by rw [HG.out] at hp; injection hp with hp; subst hp; exact hlk.out⟩
        · exfalso; simp [bindsB] at hb; omega
      · have HTm := Lib.hid (fun (w' : World) (hkp : Kept [mb, ab] w w') (hlk : Lk kb mb ab Fb nf Fc main w' met A) (hB : w'.cell? ⟨w.heap.size, 0, none⟩ = some (.pointer (some ⟨kb, 0, none⟩))) => hasTerm HN.out (lcap := ncap) HO.out.nextAt n2 (HM.out.kept hkp HK.out.cells) hlk hB (by simp <;> omega))
        have HBd := Lib.hid (fun (w' : World) (hb : Below w.heap.size w w') => binds_nil (HK.out.later hb))
        obtain hk | hk | hk | hk | hk | hno := xs
        · exact absurd (by rw [hk]; rfl) hb
        · exact absurd (by rw [hk]; rfl) hb
        · exact absurd (by rw [hk]; rfl) hb
        · exact absurd (by rw [hk]; rfl) hb
        · exact absurd (by rw [hk]; rfl) hb
        · obtain ⟨h1, h2, h3, h9, h10⟩ := hno
          have q1 : (t.kind == 1) = false := by rw [beq_eq_false_iff_ne]; exact h1
          have q2 : (t.kind == 2) = false := by rw [beq_eq_false_iff_ne]; exact h2
          have q3 : (t.kind == 3) = false := by rw [beq_eq_false_iff_ne]; exact h3
          have q9 : (t.kind == 9) = false := by rw [beq_eq_false_iff_ne]; exact h9
          have q10 : (t.kind == 10) = false := by rw [beq_eq_false_iff_ne]; exact h10
          have HG : Hid (goodT nf main t met A = goodTs nf main t.next met A) := Lib.hid (by rw [hge.out, Bool.and_self, if_pos rfl, if_neg hb])
          cases hgt : goodTs nf main t.next met A with
          | none =>
            rw [hgt] at HTm HG
            clear hfm hge hb hgt h1 h2 h3 h9 h10
            go_enter Try.func22, Try.ntmps22
            go_wp2_with (first | (go_at_call 36; refine (HF.out _ ((below_box _ _).alloc (by simp) _)).mono ?_; rintro e w1 ⟨rfl, hb1⟩; obtain ⟨gb1, gb2⟩ := two_boxes hb1; have HB1 := Lib.hid (below_boxes hb1); have z1 := gb2.1; have g := gb1.2 0 _ rfl; have g0 := gb2.2 0 _ rfl; have g1 := gb2.2 1 _ rfl; have g5 := gb2.2 5 _ rfl; have g7 := gb2.2 7 _ rfl; clear hb1 gb1 gb2) | (go_at_call 37; refine (hasAtom HO.out.args (HM.out.later HB1.out) (HK.out.later HB1.out) (by assumption)).mono ?_; rintro e w2 ⟨rfl, hb2⟩; have HB2 := Lib.hid (bgo HB1.out hb2); have z2 := Nat.lt_of_lt_of_le z1 hb2.size; have z2' := Nat.lt_of_succ_lt z2; have G := (hb2.cell (by exact Nat.lt_of_succ_lt z1)).trans g; have G0 := (hb2.cell (by exact z1)).trans g0; have G1 := (hb2.cell (by exact z1)).trans g1; have G7 := (hb2.cell (by exact z1)).trans g7; clear hb2 g g0 g1 g5 g7) | (go_at_call 21; refine (HBd.out _ HB2.out).mono ?_; rintro e w3 ⟨rfl, hkp3, hlk3⟩; have HLK3 := Lib.hid hlk3; have HKP3 := Lib.hid ((Kept.below (S := [mb, ab]) HB2.out).trans hkp3); have K := hkp3.cell G (by simp <;> omega); have K7 := hkp3.cell G7 (by simp <;> omega); clear hkp3 hlk3 G G0 G1 G7) | (go_at_call 40; refine (HTm.out _ HKP3.out (HLK3.out _ rfl) (by assumption)).mono ?_; rintro e w4 ⟨rfl, hkp4, hlk4⟩; have HLK4 := Lib.hid hlk4; have HKP4 := Lib.hid (HKP3.out.trans hkp4); clear hkp4 hlk4 K K7))
            go_ret
            exact ⟨by rw [HG.out]; rfl, HKP4.out, fun p hp => by rw [HG.out] at hp; cases hp⟩
          | some met3 =>
            rw [hgt] at HTm HG
            clear hfm hge hb hgt h1 h2 h3 h9 h10
            go_enter Try.func22, Try.ntmps22
            go_wp2_with (first | (go_at_call 36; refine (HF.out _ ((below_box _ _).alloc (by simp) _)).mono ?_; rintro e w1 ⟨rfl, hb1⟩; obtain ⟨gb1, gb2⟩ := two_boxes hb1; have HB1 := Lib.hid (below_boxes hb1); have z1 := gb2.1; have g := gb1.2 0 _ rfl; have g0 := gb2.2 0 _ rfl; have g1 := gb2.2 1 _ rfl; have g5 := gb2.2 5 _ rfl; have g7 := gb2.2 7 _ rfl; clear hb1 gb1 gb2) | (go_at_call 37; refine (hasAtom HO.out.args (HM.out.later HB1.out) (HK.out.later HB1.out) (by assumption)).mono ?_; rintro e w2 ⟨rfl, hb2⟩; have HB2 := Lib.hid (bgo HB1.out hb2); have z2 := Nat.lt_of_lt_of_le z1 hb2.size; have z2' := Nat.lt_of_succ_lt z2; have G := (hb2.cell (by exact Nat.lt_of_succ_lt z1)).trans g; have G0 := (hb2.cell (by exact z1)).trans g0; have G1 := (hb2.cell (by exact z1)).trans g1; have G7 := (hb2.cell (by exact z1)).trans g7; clear hb2 g g0 g1 g5 g7) | (go_at_call 21; refine (HBd.out _ HB2.out).mono ?_; rintro e w3 ⟨rfl, hkp3, hlk3⟩; have HLK3 := Lib.hid hlk3; have HKP3 := Lib.hid ((Kept.below (S := [mb, ab]) HB2.out).trans hkp3); have K := hkp3.cell G (by simp <;> omega); have K7 := hkp3.cell G7 (by simp <;> omega); clear hkp3 hlk3 G G0 G1 G7) | (go_at_call 40; refine (HTm.out _ HKP3.out (HLK3.out _ rfl) (by assumption)).mono ?_; rintro e w4 ⟨rfl, hkp4, hlk4⟩; have HLK4 := Lib.hid hlk4; have HKP4 := Lib.hid (HKP3.out.trans hkp4); clear hkp4 hlk4 K K7))
            refine wp_loop_rounds 1 ?_
            rw [rounds_succ]
            go_wp2_with fail
            go_ret
            exact ⟨by rw [HG.out]; rfl, HKP4.out, fun p hp => by rw [HG.out] at hp; injection hp with hp; subst hp; exact HLK4.out _ rfl⟩
end Go.Proofs.Ytimljadlfhccpaa
