/- What functions of the program do, printed by wip/tools/sx/sx.py. How many expressions and patterns there are: the program's and the document's answers. What is not too large: not many nodes, not deep. A program that is not too large: its types are not. What functions of the program do, printed by wip/tools/sx/sx.py. How deep: the program's numbers, the document's tests. -/
import Derived.Test.YtgmapdcdmomioaaGreatDoorRD
set_option linter.all false
set_option autoImplicit false
set_option maxRecDepth 100000
namespace Go.Proofs.YtgmapdcdmomioaaGreatDoor.Pa
open Go Go.Proofs.YtgmapdcdmomioaaGreatDoor.Am
def L143_3 (n1 : Int) (n5 : Int) (y2 : Dat) (g : Glob) (Qf : OGP) : Prop := CP TT Tryz.f143 [1, 1, 0, 1, 0] Qf (mkC TT 143 Tryz.f143 2 [(1, .v 3 (.int .i64 n1)), (2, .loc 2 0 0), (5, .v 3 (.int .i64 n5))] [(2, .whole 127 y2)] g)
def lo143 : List CuI := [⟨3, [(1, .keep), (2, .keep), (5, .keep)], [(2, .whole 127)]⟩]
theorem w143 {x0 : Dat} {n1 : Int} {g : Glob} {Qf : OGP} (h0 : Ha TT 127 x0)
    (h : L143_3 (IntKind.i64.wrap (n1 - 1)) 0 x0 g Qf) :
    EvF TT 143 [x0, .int .i64 n1] g Qf :=
  su (rk := rk) (fn := Tryz.f143) (loops := lo143) (joins := []) (n := 100000) (args := [(127, x0), (3, .int .i64 n1)]) rfl rfl rfl rfl ⟨h0, tyI rfl, trivial⟩ (by kernel_rfl) h
theorem w143_3 {n1 : Int} {n5 : Int} {y2 : Dat} {g : Glob} {Qf : OGP} 
    (h : Br (decide (n5 < (↑(elO (fld y2 3)).length : Int))) (Br (decide (0 ≤ n1)) (InB n5 (elO (fld y2 3)).length ∧ EvF TT 143 [gtE (elO (fld y2 3)) n5, .int .i64 n1] g (KQ Qf fun v g' => ∃ n, v = .d (.int .i64 n) ∧ L143_3 n (IntKind.i64.wrap (n5 + 1)) y2 g' Qf)) (Qf (.val (.d (.int .i64 n1))) g)) (Qf (.val (.d (.int .i64 n1))) g)) :
    L143_3 n1 n5 y2 g Qf := sxc (rk := rk) (loops := lo143) (joins := []) (n := 100000) (by kernel_rfl) h
def L144_3 (n1 : Int) (n5 : Int) (y2 : Dat) (g : Glob) (Qf : OGP) : Prop := CP TT Tryz.f144 [1, 1, 0, 1, 0] Qf (mkC TT 144 Tryz.f144 2 [(1, .v 3 (.int .i64 n1)), (2, .loc 2 0 0), (5, .v 3 (.int .i64 n5))] [(2, .whole 127 y2)] g)
def lo144 : List CuI := [⟨3, [(1, .keep), (2, .keep), (5, .keep)], [(2, .whole 127)]⟩]
theorem w144 {x0 : Dat} {n1 : Int} {g : Glob} {Qf : OGP} (h0 : Ha TT 127 x0)
    (h : L144_3 (IntKind.i64.wrap (n1 + 1)) 0 x0 g Qf) :
    EvF TT 144 [x0, .int .i64 n1] g Qf :=
  su (rk := rk) (fn := Tryz.f144) (loops := lo144) (joins := []) (n := 100000) (args := [(127, x0), (3, .int .i64 n1)]) rfl rfl rfl rfl ⟨h0, tyI rfl, trivial⟩ (by kernel_rfl) h
theorem w144_3 {n1 : Int} {n5 : Int} {y2 : Dat} {g : Glob} {Qf : OGP} 
    (h : Br (decide (n5 < (↑(elO (fld y2 3)).length : Int))) (Br (decide (n1 ≤ 2048)) (InB n5 (elO (fld y2 3)).length ∧ EvF TT 144 [gtE (elO (fld y2 3)) n5, .int .i64 n1] g (KQ Qf fun v g' => ∃ n, v = .d (.int .i64 n) ∧ L144_3 n (IntKind.i64.wrap (n5 + 1)) y2 g' Qf)) (Qf (.val (.d (.int .i64 n1))) g)) (Qf (.val (.d (.int .i64 n1))) g)) :
    L144_3 n1 n5 y2 g Qf := sxc (rk := rk) (loops := lo144) (joins := []) (n := 100000) (by kernel_rfl) h
def L77_3 (n1 : Int) (n5 : Int) (y2 : Dat) (g : Glob) (Qf : OGP) : Prop := CP TT Tryz.f77 [1, 1, 0, 1, 0] Qf (mkC TT 77 Tryz.f77 2 [(1, .v 3 (.int .i64 n1)), (2, .loc 2 0 0), (5, .v 3 (.int .i64 n5))] [(2, .whole 27 y2)] g)
def L77_7 (n1 : Int) (n6 : Int) (y2 : Dat) (g : Glob) (Qf : OGP) : Prop := CP TT Tryz.f77 [1, 1, 1, 0, 1, 0] Qf (mkC TT 77 Tryz.f77 2 [(1, .v 3 (.int .i64 n1)), (2, .loc 2 0 0), (6, .v 3 (.int .i64 n6))] [(2, .whole 27 y2)] g)
def lo77 : List CuI := [⟨3, [(1, .keep), (2, .keep), (5, .keep)], [(2, .whole 27)]⟩, ⟨7, [(1, .keep), (2, .keep), (6, .keep)], [(2, .whole 27)]⟩]
theorem w77 {x0 : Dat} {n1 : Int} {g : Glob} {Qf : OGP} (h0 : Ha TT 27 x0)
    (h : L77_3 (IntKind.i64.wrap (n1 - 1)) 0 x0 g Qf) :
    EvF TT 77 [x0, .int .i64 n1] g Qf :=
  su (rk := rk) (fn := Tryz.f77) (loops := lo77) (joins := []) (n := 100000) (args := [(27, x0), (3, .int .i64 n1)]) rfl rfl rfl rfl ⟨h0, tyI rfl, trivial⟩ (by kernel_rfl) h
theorem w77_3 {n1 : Int} {n5 : Int} {y2 : Dat} {g : Glob} {Qf : OGP} 
    (h : Br (decide (n5 < (↑(elO (fld y2 5)).length : Int))) (Br (decide (0 ≤ n1)) (InB n5 (elO (fld y2 5)).length ∧ EvF TT 143 [gtE (elO (fld y2 5)) n5, .int .i64 n1] g (KQ Qf fun v g' => ∃ n, v = .d (.int .i64 n) ∧ L77_3 n (IntKind.i64.wrap (n5 + 1)) y2 g' Qf)) (L77_7 n1 0 y2 g Qf)) (L77_7 n1 0 y2 g Qf)) :
    L77_3 n1 n5 y2 g Qf := sxc (rk := rk) (loops := lo77) (joins := []) (n := 100000) (by kernel_rfl) h
theorem w77_7 {n1 : Int} {n6 : Int} {y2 : Dat} {g : Glob} {Qf : OGP} 
    (h : Br (decide (n6 < (↑(elO (fld y2 4)).length : Int))) (Br (decide (0 ≤ n1)) (InB n6 (elO (fld y2 4)).length ∧ EvF TT 77 [gtE (elO (fld y2 4)) n6, .int .i64 n1] g (KQ Qf fun v g' => ∃ n, v = .d (.int .i64 n) ∧ L77_7 n (IntKind.i64.wrap (n6 + 1)) y2 g' Qf)) (Qf (.val (.d (.int .i64 n1))) g)) (Qf (.val (.d (.int .i64 n1))) g)) :
    L77_7 n1 n6 y2 g Qf := sxc (rk := rk) (loops := lo77) (joins := []) (n := 100000) (by kernel_rfl) h
def L78_3 (n1 : Int) (n5 : Int) (y2 : Dat) (g : Glob) (Qf : OGP) : Prop := CP TT Tryz.f78 [1, 1, 0, 1, 0] Qf (mkC TT 78 Tryz.f78 2 [(1, .v 3 (.int .i64 n1)), (2, .loc 2 0 0), (5, .v 3 (.int .i64 n5))] [(2, .whole 27 y2)] g)
def L78_7 (n1 : Int) (n6 : Int) (y2 : Dat) (g : Glob) (Qf : OGP) : Prop := CP TT Tryz.f78 [1, 1, 1, 0, 1, 0] Qf (mkC TT 78 Tryz.f78 2 [(1, .v 3 (.int .i64 n1)), (2, .loc 2 0 0), (6, .v 3 (.int .i64 n6))] [(2, .whole 27 y2)] g)
def lo78 : List CuI := [⟨3, [(1, .keep), (2, .keep), (5, .keep)], [(2, .whole 27)]⟩, ⟨7, [(1, .keep), (2, .keep), (6, .keep)], [(2, .whole 27)]⟩]
theorem w78 {x0 : Dat} {n1 : Int} {g : Glob} {Qf : OGP} (h0 : Ha TT 27 x0)
    (h : L78_3 (IntKind.i64.wrap (n1 + 1)) 0 x0 g Qf) :
    EvF TT 78 [x0, .int .i64 n1] g Qf :=
  su (rk := rk) (fn := Tryz.f78) (loops := lo78) (joins := []) (n := 100000) (args := [(27, x0), (3, .int .i64 n1)]) rfl rfl rfl rfl ⟨h0, tyI rfl, trivial⟩ (by kernel_rfl) h
theorem w78_3 {n1 : Int} {n5 : Int} {y2 : Dat} {g : Glob} {Qf : OGP} 
    (h : Br (decide (n5 < (↑(elO (fld y2 5)).length : Int))) (Br (decide (n1 ≤ 2048)) (InB n5 (elO (fld y2 5)).length ∧ EvF TT 144 [gtE (elO (fld y2 5)) n5, .int .i64 n1] g (KQ Qf fun v g' => ∃ n, v = .d (.int .i64 n) ∧ L78_3 n (IntKind.i64.wrap (n5 + 1)) y2 g' Qf)) (L78_7 n1 0 y2 g Qf)) (L78_7 n1 0 y2 g Qf)) :
    L78_3 n1 n5 y2 g Qf := sxc (rk := rk) (loops := lo78) (joins := []) (n := 100000) (by kernel_rfl) h
theorem w78_7 {n1 : Int} {n6 : Int} {y2 : Dat} {g : Glob} {Qf : OGP} 
    (h : Br (decide (n6 < (↑(elO (fld y2 4)).length : Int))) (Br (decide (n1 ≤ 2048)) (InB n6 (elO (fld y2 4)).length ∧ EvF TT 78 [gtE (elO (fld y2 4)) n6, .int .i64 n1] g (KQ Qf fun v g' => ∃ n, v = .d (.int .i64 n) ∧ L78_7 n (IntKind.i64.wrap (n6 + 1)) y2 g' Qf)) (Qf (.val (.d (.int .i64 n1))) g)) (Qf (.val (.d (.int .i64 n1))) g)) :
    L78_7 n1 n6 y2 g Qf := sxc (rk := rk) (loops := lo78) (joins := []) (n := 100000) (by kernel_rfl) h
def lo26 : List CuI := []
theorem w26 {x0 : Dat} {g : Glob} {Qf : OGP} (h0 : Ha TT 29 x0)
    (h : EvF TT 77 [sub x0 1 7, .int .i64 2048] g (KQ Qf fun v g' => ∃ n, v = .d (.int .i64 n) ∧ Qf (.val (.d (.int .i64 (IntKind.i64.wrap (2048 - maxS true (-1) n))))) g')) :
    EvF TT 26 [x0] g Qf :=
  su (rk := rk) (fn := Tryz.f26) (loops := lo26) (joins := []) (n := 100000) (args := [(29, x0)]) rfl rfl rfl rfl ⟨h0, trivial⟩ (by kernel_rfl) h
def lo27 : List CuI := []
theorem w27 {x0 : Dat} {g : Glob} {Qf : OGP} (h0 : Ha TT 29 x0)
    (h : EvF TT 78 [sub x0 1 7, .int .i64 0] g (KQ Qf fun v g' => ∃ n, v = .d (.int .i64 n) ∧ Qf (.val (.d (.int .i64 (maxS false n 2049)))) g')) :
    EvF TT 27 [x0] g Qf :=
  su (rk := rk) (fn := Tryz.f27) (loops := lo27) (joins := []) (n := 100000) (args := [(29, x0)]) rfl rfl rfl rfl ⟨h0, trivial⟩ (by kernel_rfl) h
end Go.Proofs.YtgmapdcdmomioaaGreatDoor.Pa
namespace Go.Proofs.YtgmapdcdmomioaaGreatDoor.Pa
open Go Go.Proofs.YtgmapdcdmomioaaGreatDoor.Am
mutual
def szPt : Pt → Nat
  | .mk _ _ _ a _ => 1 + szP a
def szP : List Pt → Nat
  | [] => 0
  | x :: xs => szPt x + szP xs
end
mutual
def szx : Ex' → Nat
  | .mk _ _ _ _ a b _ => 1 + szP b + szE a
def szE : List Ex' → Nat
  | [] => 0
  | x :: xs => szx x + szE xs
end
theorem szt {xs : List Dat} {i : Nat} (hi : i < xs.length) : szP ((xs.drop i).map aP) = szPt (aP xs[i]) + szP ((xs.drop (i + 1)).map aP) := by
  rw [List.drop_eq_getElem_cons hi]; rfl
theorem szExs_drop {xs : List Dat} {i : Nat} (hi : i < xs.length) : szE ((xs.drop i).map ax) = szx (ax xs[i]) + szE ((xs.drop (i + 1)).map ax) := by
  rw [List.drop_eq_getElem_cons hi]; rfl
def lft (n : Int) (s : Nat) : Int := if (s : Int) ≤ n then n - s else -1
theorem lft_add (n : Int) (a b : Nat) : lft n (a + b) = lft (lft n a) b := by
  unfold lft
  repeat' split
  all_goals omega
theorem lft_lt {n : Int} (s : Nat) (h : n < 0) (h1 : -1 ≤ n) : lft n s = n := by
  unfold lft
  split <;> omega
theorem lft_rng {n : Int} (s : Nat) (h : n ≤ 2048) : -1 ≤ lft n s ∧ lft n s ≤ 2048 := by
  unfold lft
  split <;> omega
theorem patSized_ok : ∀ (k : Nat) (x : Dat) (g : Glob) (n1 : Int), SizeOf.sizeOf x < k → Ha TT 127 x → 0 ≤ n1 → n1 ≤ 2048 → ∀ (Qf : OGP), Qf (.val (.d (.int .i64 (lft n1 (szPt (aP x)))))) g → EvF TT 143 [x, .int .i64 n1] g Qf
  | 0, x, g, n1, hk, _, _, _ => by omega
  | k + 1, x, g, n1, hk, hx, h0, h1 => by
    intro Qf hQ
    refine w143 hx ?_
    obtain ⟨k1, s1, v1, a1, p1, rfl, hs1, t1⟩ := pat_ty hx
    have ex := t1.els uP
    have exl := ex.1.1
    have hc := sO (cs := [.int .i64 k1, .str s1, .int .i64 v1, a1, .int .i64 p1]) (c := a1) (by simp)
    rw [wrp (by omega) (by omega)]
    have hz : lft n1 (szPt (aP (.agg [.int .i64 k1, .str s1, .int .i64 v1, a1, .int .i64 p1]))) = lft (n1 - 1) (szP (((elO a1).drop 0).map aP)) := by
      simp only [aP, szPt, aA, List.drop_zero]
      rw [lft_add]
      congr 1
      unfold lft
      split <;> omega
    rw [hz] at hQ
    refine lU (len := (elO a1).length) (fun i => ∀ n : Int, -1 ≤ n → n ≤ 2048 → Qf (.val (.d (.int .i64 (lft n (szP (((elO a1).drop i).map aP)))))) g → L143_3 n (i : Int) (.agg [.int .i64 k1, .str s1, .int .i64 v1, a1, .int .i64 p1]) g Qf) ?_ ?_ 0 (Nat.zero_le _) (n1 - 1) (by omega) (by omega) hQ
    · intro n h0 h1 hQ
      refine w143_3 ?_
      rw [show (fld (Dat.agg [.int .i64 k1, .str s1, .int .i64 v1, a1, .int .i64 p1]) 3) = a1 from rfl, Bg]
      rw [List.drop_length, show lft n (szP (([] : List Dat).map aP)) = n from by simp only [List.map_nil, szP, lft]; split <;> omega] at hQ
      exact hQ
    · intro i hi ih n h0 h1 hQ
      refine w143_3 ?_
      rw [show (fld (Dat.agg [.int .i64 k1, .str s1, .int .i64 v1, a1, .int .i64 p1]) 3) = a1 from rfl, Bl hi, geE hi]
      refine Bi.2 ⟨fun q => ⟨inB hi, ?_⟩, fun q => ?_⟩
      · have hsz := siz hi
        refine patSized_ok k _ g _ (by omega) (ex.2 _ (List.getElem_mem hi)) (of_decide_eq_true q) h1 _ ⟨_, rfl, ?_⟩
        rw [wra (by omega)]
        refine ih _ (lft_rng _ h1).1 (lft_rng _ h1).2 ?_
        rw [← lft_add, ← szt hi]
        exact hQ
      · rw [lft_lt _ (by have := of_decide_eq_false q; omega) h0] at hQ
        exact hQ
theorem sized_ok : ∀ (k : Nat) (x : Dat) (g : Glob) (n1 : Int), SizeOf.sizeOf x < k → Ha TT 27 x → 0 ≤ n1 → n1 ≤ 2048 → ∀ (Qf : OGP), Qf (.val (.d (.int .i64 (lft n1 (szx (ax x)))))) g → EvF TT 77 [x, .int .i64 n1] g Qf
  | 0, x, g, n1, hk, _, _, _ => by omega
  | k + 1, x, g, n1, hk, hx, h0, h1 => by
    intro Qf hQ
    refine w77 hx ?_
    obtain ⟨k1, s1, r1, v1, a1, b1, p1, rfl, hs1, hr1, t1, u1⟩ := exr hx
    have ex := t1.els unE
    have exl := ex.1.1
    have eu := u1.els uP
    have eul := eu.1.1
    have hc := sO (cs := [.int .i64 k1, .str s1, .str r1, .int .i64 v1, a1, b1, .int .i64 p1]) (c := a1) (by simp)
    rw [wrp (by omega) (by omega)]
    have hz : lft n1 (szx (ax (.agg [.int .i64 k1, .str s1, .str r1, .int .i64 v1, a1, b1, .int .i64 p1]))) = lft (lft (n1 - 1) (szP (((elO b1).drop 0).map aP))) (szE (((elO a1).drop 0).map ax)) := by
      simp only [ax, szx, aA, abE, List.drop_zero]
      rw [lft_add, lft_add]
      congr 2
      unfold lft
      split <;> omega
    rw [hz] at hQ
    have args : ∀ n : Int, -1 ≤ n → n ≤ 2048 → Qf (.val (.d (.int .i64 (lft n (szE (((elO a1).drop 0).map ax)))))) g → L77_7 n 0 (.agg [.int .i64 k1, .str s1, .str r1, .int .i64 v1, a1, b1, .int .i64 p1]) g Qf := by
      refine lU (len := (elO a1).length) (fun i => ∀ n : Int, -1 ≤ n → n ≤ 2048 → Qf (.val (.d (.int .i64 (lft n (szE (((elO a1).drop i).map ax)))))) g → L77_7 n (i : Int) (.agg [.int .i64 k1, .str s1, .str r1, .int .i64 v1, a1, b1, .int .i64 p1]) g Qf) ?_ ?_ 0 (Nat.zero_le _)
      · intro n h0 h1 hQ
        refine w77_7 ?_
        rw [show (fld (Dat.agg [.int .i64 k1, .str s1, .str r1, .int .i64 v1, a1, b1, .int .i64 p1]) 4) = a1 from rfl, Bg]
        rw [List.drop_length, show lft n (szE (([] : List Dat).map ax)) = n from by simp only [List.map_nil, szE, lft]; split <;> omega] at hQ
        exact hQ
      · intro i hi ih n h0 h1 hQ
        refine w77_7 ?_
        rw [show (fld (Dat.agg [.int .i64 k1, .str s1, .str r1, .int .i64 v1, a1, b1, .int .i64 p1]) 4) = a1 from rfl, Bl hi, geE hi]
        refine Bi.2 ⟨fun q => ⟨inB hi, ?_⟩, fun q => ?_⟩
        · have hsz := siz hi
          refine sized_ok k _ g _ (by omega) (ex.2 _ (List.getElem_mem hi)) (of_decide_eq_true q) h1 _ ⟨_, rfl, ?_⟩
          rw [wra (by omega)]
          refine ih _ (lft_rng _ h1).1 (lft_rng _ h1).2 ?_
          rw [← lft_add, ← szExs_drop hi]
          exact hQ
        · rw [lft_lt _ (by have := of_decide_eq_false q; omega) h0] at hQ
          exact hQ
    refine lU (len := (elO b1).length) (fun i => ∀ n : Int, -1 ≤ n → n ≤ 2048 → Qf (.val (.d (.int .i64 (lft (lft n (szP (((elO b1).drop i).map aP))) (szE (((elO a1).drop 0).map ax)))))) g → L77_3 n (i : Int) (.agg [.int .i64 k1, .str s1, .str r1, .int .i64 v1, a1, b1, .int .i64 p1]) g Qf) ?_ ?_ 0 (Nat.zero_le _) (n1 - 1) (by omega) (by omega) hQ
    · intro n h0 h1 hQ
      refine w77_3 ?_
      rw [show (fld (Dat.agg [.int .i64 k1, .str s1, .str r1, .int .i64 v1, a1, b1, .int .i64 p1]) 5) = b1 from rfl, Bg]
      rw [List.drop_length, show lft n (szP (([] : List Dat).map aP)) = n from by simp only [List.map_nil, szP, lft]; split <;> omega] at hQ
      exact args n h0 h1 hQ
    · intro i hi ih n h0 h1 hQ
      refine w77_3 ?_
      rw [show (fld (Dat.agg [.int .i64 k1, .str s1, .str r1, .int .i64 v1, a1, b1, .int .i64 p1]) 5) = b1 from rfl, Bl hi, geE hi]
      refine Bi.2 ⟨fun q => ⟨inB hi, ?_⟩, fun q => ?_⟩
      · refine patSized_ok _ _ g _ (Nat.lt_succ_self _) (eu.2 _ (List.getElem_mem hi)) (of_decide_eq_true q) h1 _ ⟨_, rfl, ?_⟩
        rw [wra (by omega)]
        refine ih _ (lft_rng _ h1).1 (lft_rng _ h1).2 ?_
        rw [← lft_add n, ← szt hi]
        exact hQ
      · rw [lft_lt (szP (((elO b1).drop i).map aP)) (by have := of_decide_eq_false q; omega) h0] at hQ
        exact args n h0 h1 hQ
def upto (n : Int) (s : Nat) : Int := if n + s ≤ 2048 then n + s else 2049
theorem upto_add (n : Int) (a b : Nat) : upto n (a + b) = upto (upto n a) b := by
  unfold upto
  repeat' split
  all_goals omega
theorem upto_gt {n : Int} (s : Nat) (h : 2048 < n) (h1 : n ≤ 2049) : upto n s = n := by
  unfold upto
  split <;> omega
theorem upto_rng {n : Int} (s : Nat) (h : 0 ≤ n) : 0 ≤ upto n s ∧ upto n s ≤ 2049 := by
  unfold upto
  split <;> omega
theorem sizePat_ok : ∀ (k : Nat) (x : Dat) (g : Glob) (n1 : Int), SizeOf.sizeOf x < k → Ha TT 127 x → 0 ≤ n1 → n1 ≤ 2048 → ∀ (Qf : OGP), Qf (.val (.d (.int .i64 (upto n1 (szPt (aP x)))))) g → EvF TT 144 [x, .int .i64 n1] g Qf
  | 0, x, g, n1, hk, _, _, _ => by omega
  | k + 1, x, g, n1, hk, hx, h0, h1 => by
    intro Qf hQ
    refine w144 hx ?_
    obtain ⟨k1, s1, v1, a1, p1, rfl, hs1, t1⟩ := pat_ty hx
    have ex := t1.els uP
    have exl := ex.1.1
    have hc := sO (cs := [.int .i64 k1, .str s1, .int .i64 v1, a1, .int .i64 p1]) (c := a1) (by simp)
    rw [wrp (by omega) (by omega)]
    have hz : upto n1 (szPt (aP (.agg [.int .i64 k1, .str s1, .int .i64 v1, a1, .int .i64 p1]))) = upto (n1 + 1) (szP (((elO a1).drop 0).map aP)) := by
      simp only [aP, szPt, aA, List.drop_zero]
      rw [upto_add]
      congr 1
      unfold upto
      split <;> omega
    rw [hz] at hQ
    refine lU (len := (elO a1).length) (fun i => ∀ n : Int, 0 ≤ n → n ≤ 2049 → Qf (.val (.d (.int .i64 (upto n (szP (((elO a1).drop i).map aP)))))) g → L144_3 n (i : Int) (.agg [.int .i64 k1, .str s1, .int .i64 v1, a1, .int .i64 p1]) g Qf) ?_ ?_ 0 (Nat.zero_le _) (n1 + 1) (by omega) (by omega) hQ
    · intro n h0 h1 hQ
      refine w144_3 ?_
      rw [show (fld (Dat.agg [.int .i64 k1, .str s1, .int .i64 v1, a1, .int .i64 p1]) 3) = a1 from rfl, Bg]
      rw [List.drop_length, show upto n (szP (([] : List Dat).map aP)) = n from by simp only [List.map_nil, szP, upto]; split <;> omega] at hQ
      exact hQ
    · intro i hi ih n h0 h1 hQ
      refine w144_3 ?_
      rw [show (fld (Dat.agg [.int .i64 k1, .str s1, .int .i64 v1, a1, .int .i64 p1]) 3) = a1 from rfl, Bl hi, geE hi]
      refine Bi.2 ⟨fun q => ⟨inB hi, ?_⟩, fun q => ?_⟩
      · have hsz := siz hi
        refine sizePat_ok k _ g _ (by omega) (ex.2 _ (List.getElem_mem hi)) h0 (of_decide_eq_true q) _ ⟨_, rfl, ?_⟩
        rw [wra (by omega)]
        refine ih _ (upto_rng _ h0).1 (upto_rng _ h0).2 ?_
        rw [← upto_add, ← szt hi]
        exact hQ
      · rw [upto_gt _ (by have := of_decide_eq_false q; omega) h1] at hQ
        exact hQ
theorem sizeExpr_ok : ∀ (k : Nat) (x : Dat) (g : Glob) (n1 : Int), SizeOf.sizeOf x < k → Ha TT 27 x → 0 ≤ n1 → n1 ≤ 2048 → ∀ (Qf : OGP), Qf (.val (.d (.int .i64 (upto n1 (szx (ax x)))))) g → EvF TT 78 [x, .int .i64 n1] g Qf
  | 0, x, g, n1, hk, _, _, _ => by omega
  | k + 1, x, g, n1, hk, hx, h0, h1 => by
    intro Qf hQ
    refine w78 hx ?_
    obtain ⟨k1, s1, r1, v1, a1, b1, p1, rfl, hs1, hr1, t1, u1⟩ := exr hx
    have ex := t1.els unE
    have exl := ex.1.1
    have eu := u1.els uP
    have eul := eu.1.1
    have hc := sO (cs := [.int .i64 k1, .str s1, .str r1, .int .i64 v1, a1, b1, .int .i64 p1]) (c := a1) (by simp)
    rw [wrp (by omega) (by omega)]
    have hz : upto n1 (szx (ax (.agg [.int .i64 k1, .str s1, .str r1, .int .i64 v1, a1, b1, .int .i64 p1]))) = upto (upto (n1 + 1) (szP (((elO b1).drop 0).map aP))) (szE (((elO a1).drop 0).map ax)) := by
      simp only [ax, szx, aA, abE, List.drop_zero]
      rw [upto_add, upto_add]
      congr 2
      unfold upto
      split <;> omega
    rw [hz] at hQ
    have args : ∀ n : Int, 0 ≤ n → n ≤ 2049 → Qf (.val (.d (.int .i64 (upto n (szE (((elO a1).drop 0).map ax)))))) g → L78_7 n 0 (.agg [.int .i64 k1, .str s1, .str r1, .int .i64 v1, a1, b1, .int .i64 p1]) g Qf := by
      refine lU (len := (elO a1).length) (fun i => ∀ n : Int, 0 ≤ n → n ≤ 2049 → Qf (.val (.d (.int .i64 (upto n (szE (((elO a1).drop i).map ax)))))) g → L78_7 n (i : Int) (.agg [.int .i64 k1, .str s1, .str r1, .int .i64 v1, a1, b1, .int .i64 p1]) g Qf) ?_ ?_ 0 (Nat.zero_le _)
      · intro n h0 h1 hQ
        refine w78_7 ?_
        rw [show (fld (Dat.agg [.int .i64 k1, .str s1, .str r1, .int .i64 v1, a1, b1, .int .i64 p1]) 4) = a1 from rfl, Bg]
        rw [List.drop_length, show upto n (szE (([] : List Dat).map ax)) = n from by simp only [List.map_nil, szE, upto]; split <;> omega] at hQ
        exact hQ
      · intro i hi ih n h0 h1 hQ
        refine w78_7 ?_
        rw [show (fld (Dat.agg [.int .i64 k1, .str s1, .str r1, .int .i64 v1, a1, b1, .int .i64 p1]) 4) = a1 from rfl, Bl hi, geE hi]
        refine Bi.2 ⟨fun q => ⟨inB hi, ?_⟩, fun q => ?_⟩
        · have hsz := siz hi
          refine sizeExpr_ok k _ g _ (by omega) (ex.2 _ (List.getElem_mem hi)) h0 (of_decide_eq_true q) _ ⟨_, rfl, ?_⟩
          rw [wra (by omega)]
          refine ih _ (upto_rng _ h0).1 (upto_rng _ h0).2 ?_
          rw [← upto_add, ← szExs_drop hi]
          exact hQ
        · rw [upto_gt _ (by have := of_decide_eq_false q; omega) h1] at hQ
          exact hQ
    refine lU (len := (elO b1).length) (fun i => ∀ n : Int, 0 ≤ n → n ≤ 2049 → Qf (.val (.d (.int .i64 (upto (upto n (szP (((elO b1).drop i).map aP))) (szE (((elO a1).drop 0).map ax)))))) g → L78_3 n (i : Int) (.agg [.int .i64 k1, .str s1, .str r1, .int .i64 v1, a1, b1, .int .i64 p1]) g Qf) ?_ ?_ 0 (Nat.zero_le _) (n1 + 1) (by omega) (by omega) hQ
    · intro n h0 h1 hQ
      refine w78_3 ?_
      rw [show (fld (Dat.agg [.int .i64 k1, .str s1, .str r1, .int .i64 v1, a1, b1, .int .i64 p1]) 5) = b1 from rfl, Bg]
      rw [List.drop_length, show upto n (szP (([] : List Dat).map aP)) = n from by simp only [List.map_nil, szP, upto]; split <;> omega] at hQ
      exact args n h0 h1 hQ
    · intro i hi ih n h0 h1 hQ
      refine w78_3 ?_
      rw [show (fld (Dat.agg [.int .i64 k1, .str s1, .str r1, .int .i64 v1, a1, b1, .int .i64 p1]) 5) = b1 from rfl, Bl hi, geE hi]
      refine Bi.2 ⟨fun q => ⟨inB hi, ?_⟩, fun q => ?_⟩
      · refine sizePat_ok _ _ g _ (Nat.lt_succ_self _) (eu.2 _ (List.getElem_mem hi)) h0 (of_decide_eq_true q) _ ⟨_, rfl, ?_⟩
        rw [wra (by omega)]
        refine ih _ (upto_rng _ h0).1 (upto_rng _ h0).2 ?_
        rw [← upto_add n, ← szt hi]
        exact hQ
      · rw [upto_gt (szP (((elO b1).drop i).map aP)) (by have := of_decide_eq_false q; omega) h1] at hQ
        exact args n h0 h1 hQ
theorem parseSize_ok (x : Dat) (g : Glob) (hx : Ha TT 29 x) (Qf : OGP) (hQ : Qf (.val (.d (.int .i64 (upto 0 (szx (abP x).e))))) g) : EvF TT 26 [x] g Qf := by
  refine w26 hx ?_
  obtain ⟨d1, k1, s1, r1, n1, a1, b1, p1, rfl, hd1, he1⟩ := pro hx
  refine sized_ok _ _ g _ (Nat.lt_succ_self _) he1 (by omega) (by omega) _ ⟨_, rfl, ?_⟩
  have e : IntKind.i64.wrap (2048 - maxS true (-1) (lft 2048 (szx (ax (.agg [.int .i64 k1, .str s1, .str r1, .int .i64 n1, a1, b1, .int .i64 p1]))))) = upto 0 (szx (ax (.agg [.int .i64 k1, .str s1, .str r1, .int .i64 n1, a1, b1, .int .i64 p1]))) := by
    have h := lft_rng (n := 2048) (szx (ax (.agg [.int .i64 k1, .str s1, .str r1, .int .i64 n1, a1, b1, .int .i64 p1]))) (by omega)
    have h2 : maxS true (-1) (lft 2048 (szx (ax (.agg [.int .i64 k1, .str s1, .str r1, .int .i64 n1, a1, b1, .int .i64 p1])))) = lft 2048 (szx (ax (.agg [.int .i64 k1, .str s1, .str r1, .int .i64 n1, a1, b1, .int .i64 p1]))) := by
      simp only [maxS, if_true]
      split <;> omega
    rw [h2, wrp (by omega) (by omega)]
    unfold lft upto
    repeat' split
    all_goals omega
  show Qf (.val (.d (.int .i64 (IntKind.i64.wrap (2048 - maxS true (-1) (lft 2048 (szx (ax (.agg [.int .i64 k1, .str s1, .str r1, .int .i64 n1, a1, b1, .int .i64 p1]))))))))) g
  rw [e]
  exact hQ
theorem refSize_ok (x : Dat) (g : Glob) (hx : Ha TT 29 x) (Qf : OGP) (hQ : Qf (.val (.d (.int .i64 (upto 0 (szx (abP x).e))))) g) : EvF TT 27 [x] g Qf := by
  refine w27 hx ?_
  obtain ⟨d1, k1, s1, r1, n1, a1, b1, p1, rfl, hd1, he1⟩ := pro hx
  refine sizeExpr_ok _ _ g _ (Nat.lt_succ_self _) he1 (by omega) (by omega) _ ⟨_, rfl, ?_⟩
  have e : maxS false (upto 0 (szx (ax (.agg [.int .i64 k1, .str s1, .str r1, .int .i64 n1, a1, b1, .int .i64 p1])))) 2049 = upto 0 (szx (ax (.agg [.int .i64 k1, .str s1, .str r1, .int .i64 n1, a1, b1, .int .i64 p1]))) := by
    have h := upto_rng (n := 0) (szx (ax (.agg [.int .i64 k1, .str s1, .str r1, .int .i64 n1, a1, b1, .int .i64 p1]))) (by omega)
    simp only [maxS]
    split
    · rename_i h; cases h
    · split <;> omega
  show Qf (.val (.d (.int .i64 (maxS false (upto 0 (szx (ax (.agg [.int .i64 k1, .str s1, .str r1, .int .i64 n1, a1, b1, .int .i64 p1])))) 2049)))) g
  rw [e]
  exact hQ
end Go.Proofs.YtgmapdcdmomioaaGreatDoor.Pa
namespace Go.Proofs.YtgmapdcdmomioaaGreatDoor.Pa
open Go Go.Proofs.YtgmapdcdmomioaaGreatDoor.Am
mutual
def ndTy : Ty → Nat
  | .mk _ _ _ a => 1 + ndTys a
def ndTys : List Ty → Nat
  | [] => 0
  | x :: xs => ndTy x + ndTys xs
end
mutual
def dpTy : Ty → Nat
  | .mk _ _ _ a => 1 + dpT a
def dpT : List Ty → Nat
  | [] => 0
  | x :: xs => max (dpTy x) (dpT xs)
end
mutual
def dpPt : Pt → Nat
  | .mk _ _ _ a _ => 1 + dP a
def dP : List Pt → Nat
  | [] => 0
  | x :: xs => max (dpPt x) (dP xs)
end
mutual
def dpEx : Ex' → Nat
  | .mk _ _ _ _ a b _ => 1 + max (dP b) (dpExs a)
def dpExs : List Ex' → Nat
  | [] => 0
  | x :: xs => max (dpEx x) (dpExs xs)
end
theorem ndTys_drop {xs : List Dat} {i : Nat} (hi : i < xs.length) : ndTys ((xs.drop i).map aT) = ndTy (aT xs[i]) + ndTys ((xs.drop (i + 1)).map aT) := by
  rw [List.drop_eq_getElem_cons hi]; rfl
theorem dpTys_drop {xs : List Dat} {i : Nat} (hi : i < xs.length) : dpT ((xs.drop i).map aT) = max (dpTy (aT xs[i])) (dpT ((xs.drop (i + 1)).map aT)) := by
  rw [List.drop_eq_getElem_cons hi]; rfl
theorem dpPts_drop {xs : List Dat} {i : Nat} (hi : i < xs.length) : dP ((xs.drop i).map aP) = max (dpPt (aP xs[i])) (dP ((xs.drop (i + 1)).map aP)) := by
  rw [List.drop_eq_getElem_cons hi]; rfl
theorem dpExs_drop {xs : List Dat} {i : Nat} (hi : i < xs.length) : dpExs ((xs.drop i).map ax) = max (dpEx (ax xs[i])) (dpExs ((xs.drop (i + 1)).map ax)) := by
  rw [List.drop_eq_getElem_cons hi]; rfl
theorem tdiv10 (n : Nat) : (n : Int).tdiv 10 = ((n / 10 : Nat) : Int) := rfl
theorem weighType_all : ∀ (k : Nat) (x : Dat) (g : Glob) (d n : Int), SizeOf.sizeOf x < k → Ha TT 94 x → 0 ≤ d → d ≤ 601 → 0 ≤ n → n ≤ 20000 →
    ∀ (Qf : OGP), (∀ r : Int, -1 ≤ r → r ≤ 20000 → (0 ≤ r → n + ndTy (aT x) ≤ r ∧ d + dpTy (aT x) ≤ 601) → Qf (.val (.d (.int .i64 r))) g) → EvF TT 125 [x, .int .i64 d, .int .i64 n] g Qf
  | 0, x, g, d, n, hk, _, _, _, _, _ => by omega
  | k + 1, x, g, d, n, hk, hx, d0, d1, h0, h1 => by
    intro Qf hQ
    obtain ⟨k1, s1, v1, a1, rfl, hs1, t1⟩ := type_ty hx
    have ex := t1.els uT
    have exl := ex.1.1
    have hc := sO (cs := [.int .i64 k1, .str s1, .int .i64 v1, a1]) (c := a1) (by simp)
    have hw : IntKind.i64.wrap (n + IntKind.i64.wrap (1 + IntKind.i64.wrap ((↑(elO a1).length : Int).tdiv 10))) = n + (1 + (((elO a1).length / 10 : Nat) : Int)) := by
      rw [tdiv10, wrp (n := (((elO a1).length / 10 : Nat) : Int)) (by omega) (by omega), wrp (n := 1 + (((elO a1).length / 10 : Nat) : Int)) (by omega) (by omega), wrp (by omega) (by omega)]
    refine w125 hx ⟨neZ (by decide), ?_⟩
    rw [show (fld (Dat.agg [.int .i64 k1, .str s1, .int .i64 v1, a1]) 3) = a1 from rfl, hw]
    refine Bi.2 ⟨fun _ => hQ _ (by omega) (by omega) (fun h => by omega), fun q1 => Bi.2 ⟨fun _ => hQ _ (by omega) (by omega) (fun h => by omega), fun q2 => ?_⟩⟩
    have q1 := of_decide_eq_false q1
    have q2 := of_decide_eq_false q2
    have e1 : ndTy (aT (.agg [.int .i64 k1, .str s1, .int .i64 v1, a1])) = 1 + ndTys (((elO a1).drop 0).map aT) := by simp only [aT, ndTy, ay, List.drop_zero]
    have e2 : dpTy (aT (.agg [.int .i64 k1, .str s1, .int .i64 v1, a1])) = 1 + dpT (((elO a1).drop 0).map aT) := by simp only [aT, dpTy, ay, List.drop_zero]
    rw [e1, e2] at hQ
    refine lU (len := (elO a1).length) (fun i => ∀ m : Int, -1 ≤ m → m ≤ 20000 → (∀ r : Int, -1 ≤ r → r ≤ 20000 → (0 ≤ r → 0 ≤ m ∧ m + ndTys (((elO a1).drop i).map aT) ≤ r ∧ d + (1 + dpT (((elO a1).drop i).map aT)) ≤ 601) → Qf (.val (.d (.int .i64 r))) g) → L125_5 d m (i : Int) (.agg [.int .i64 k1, .str s1, .int .i64 v1, a1]) g Qf) ?_ ?_ 0 (Nat.zero_le _) _ (by omega) (by omega) (fun r r0 r1 h => hQ r r0 r1 fun hr => ⟨by have := (h hr).2.1; omega, by have := (h hr).2.2; omega⟩)
    · intro m m0 m1 hQ
      refine w125_5 ?_
      rw [show (fld (Dat.agg [.int .i64 k1, .str s1, .int .i64 v1, a1]) 3) = a1 from rfl, Bg]
      exact hQ _ m0 m1 fun hr => by rw [List.drop_length]; simp only [List.map_nil, ndTys, dpT]; omega
    · intro i hi ih m m0 m1 hQ
      refine w125_5 ?_
      rw [show (fld (Dat.agg [.int .i64 k1, .str s1, .int .i64 v1, a1]) 3) = a1 from rfl, Bl hi, geE hi]
      refine Bi.2 ⟨fun q => ⟨inB hi, ?_⟩, fun q => hQ _ m0 m1 fun hr => by have := of_decide_eq_false q; omega⟩
      have hsz := siz hi
      rw [wrp (by omega) (by omega)]
      refine weighType_all k _ g _ _ (by omega) (ex.2 _ (List.getElem_mem hi)) (by omega) (by omega) (of_decide_eq_true q) m1 _ fun r r0 r1 hr => ⟨_, rfl, ?_⟩
      rw [wra (by omega)]
      refine ih r r0 r1 fun r' s0 s1 hr' => hQ r' s0 s1 fun h' => ?_
      rw [ndTys_drop hi, dpTys_drop hi]
      have a := hr' h'
      have b := hr a.1
      have c := of_decide_eq_true q
      omega
theorem weighPat_all : ∀ (k : Nat) (x : Dat) (g : Glob) (d n : Int), SizeOf.sizeOf x < k → Ha TT 127 x → 0 ≤ d → d ≤ 601 → 0 ≤ n → n ≤ 20000 →
    ∀ (Qf : OGP), (∀ r : Int, -1 ≤ r → r ≤ 20000 → (0 ≤ r → n + szPt (aP x) ≤ r ∧ d + dpPt (aP x) ≤ 601) → Qf (.val (.d (.int .i64 r))) g) → EvF TT 159 [x, .int .i64 d, .int .i64 n] g Qf
  | 0, x, g, d, n, hk, _, _, _, _, _ => by omega
  | k + 1, x, g, d, n, hk, hx, d0, d1, h0, h1 => by
    intro Qf hQ
    obtain ⟨k1, s1, v1, a1, p1, rfl, hs1, t1⟩ := pat_ty hx
    have ex := t1.els uP
    have exl := ex.1.1
    have hc := sO (cs := [.int .i64 k1, .str s1, .int .i64 v1, a1, .int .i64 p1]) (c := a1) (by simp)
    have hw : IntKind.i64.wrap (n + IntKind.i64.wrap (1 + IntKind.i64.wrap ((↑(elO a1).length : Int).tdiv 10))) = n + (1 + (((elO a1).length / 10 : Nat) : Int)) := by
      rw [tdiv10, wrp (n := (((elO a1).length / 10 : Nat) : Int)) (by omega) (by omega), wrp (n := 1 + (((elO a1).length / 10 : Nat) : Int)) (by omega) (by omega), wrp (by omega) (by omega)]
    refine w159 hx ⟨neZ (by decide), ?_⟩
    rw [show (fld (Dat.agg [.int .i64 k1, .str s1, .int .i64 v1, a1, .int .i64 p1]) 3) = a1 from rfl, hw]
    refine Bi.2 ⟨fun _ => hQ _ (by omega) (by omega) (fun h => by omega), fun q1 => Bi.2 ⟨fun _ => hQ _ (by omega) (by omega) (fun h => by omega), fun q2 => ?_⟩⟩
    have q1 := of_decide_eq_false q1
    have q2 := of_decide_eq_false q2
    have e1 : szPt (aP (.agg [.int .i64 k1, .str s1, .int .i64 v1, a1, .int .i64 p1])) = 1 + szP (((elO a1).drop 0).map aP) := by simp only [aP, szPt, aA, List.drop_zero]
    have e2 : dpPt (aP (.agg [.int .i64 k1, .str s1, .int .i64 v1, a1, .int .i64 p1])) = 1 + dP (((elO a1).drop 0).map aP) := by simp only [aP, dpPt, aA, List.drop_zero]
    rw [e1, e2] at hQ
    refine lU (len := (elO a1).length) (fun i => ∀ m : Int, -1 ≤ m → m ≤ 20000 → (∀ r : Int, -1 ≤ r → r ≤ 20000 → (0 ≤ r → 0 ≤ m ∧ m + szP (((elO a1).drop i).map aP) ≤ r ∧ d + (1 + dP (((elO a1).drop i).map aP)) ≤ 601) → Qf (.val (.d (.int .i64 r))) g) → L159_5 d m (i : Int) (.agg [.int .i64 k1, .str s1, .int .i64 v1, a1, .int .i64 p1]) g Qf) ?_ ?_ 0 (Nat.zero_le _) _ (by omega) (by omega) (fun r r0 r1 h => hQ r r0 r1 fun hr => ⟨by have := (h hr).2.1; omega, by have := (h hr).2.2; omega⟩)
    · intro m m0 m1 hQ
      refine w159_5 ?_
      rw [show (fld (Dat.agg [.int .i64 k1, .str s1, .int .i64 v1, a1, .int .i64 p1]) 3) = a1 from rfl, Bg]
      exact hQ _ m0 m1 fun hr => by rw [List.drop_length]; simp only [List.map_nil, szP, dP]; omega
    · intro i hi ih m m0 m1 hQ
      refine w159_5 ?_
      rw [show (fld (Dat.agg [.int .i64 k1, .str s1, .int .i64 v1, a1, .int .i64 p1]) 3) = a1 from rfl, Bl hi, geE hi]
      refine Bi.2 ⟨fun q => ⟨inB hi, ?_⟩, fun q => hQ _ m0 m1 fun hr => by have := of_decide_eq_false q; omega⟩
      have hsz := siz hi
      rw [wrp (by omega) (by omega)]
      refine weighPat_all k _ g _ _ (by omega) (ex.2 _ (List.getElem_mem hi)) (by omega) (by omega) (of_decide_eq_true q) m1 _ fun r r0 r1 hr => ⟨_, rfl, ?_⟩
      rw [wra (by omega)]
      refine ih r r0 r1 fun r' s0 s1 hr' => hQ r' s0 s1 fun h' => ?_
      rw [szt hi, dpPts_drop hi]
      have a := hr' h'
      have b := hr a.1
      have c := of_decide_eq_true q
      omega
theorem weighExpr_all : ∀ (k : Nat) (x : Dat) (g : Glob) (d n : Int), SizeOf.sizeOf x < k → Ha TT 27 x → 0 ≤ d → d ≤ 601 → 0 ≤ n → n ≤ 20000 →
    ∀ (Qf : OGP), (∀ r : Int, -1 ≤ r → r ≤ 20000 → (0 ≤ r → n + szx (ax x) ≤ r ∧ d + dpEx (ax x) ≤ 601) → Qf (.val (.d (.int .i64 r))) g) → EvF TT 88 [x, .int .i64 d, .int .i64 n] g Qf
  | 0, x, g, d, n, hk, _, _, _, _, _ => by omega
  | k + 1, x, g, d, n, hk, hx, d0, d1, h0, h1 => by
    intro Qf hQ
    obtain ⟨k1, s1, r1, v1, a1, b1, p1, rfl, hs1, hr1, t1, u1⟩ := exr hx
    have ex := t1.els unE
    have exl := ex.1.1
    have eu := u1.els uP
    have eul := eu.1.1
    have hc := sO (cs := [.int .i64 k1, .str s1, .str r1, .int .i64 v1, a1, b1, .int .i64 p1]) (c := a1) (by simp)
    have hw : IntKind.i64.wrap (n + IntKind.i64.wrap (IntKind.i64.wrap (1 + IntKind.i64.wrap ((↑(elO a1).length : Int).tdiv 10)) + IntKind.i64.wrap ((↑(elO b1).length : Int).tdiv 10))) = n + ((1 + (((elO a1).length / 10 : Nat) : Int)) + (((elO b1).length / 10 : Nat) : Int)) := by
      rw [tdiv10, tdiv10, wrp (n := (((elO a1).length / 10 : Nat) : Int)) (by omega) (by omega), wrp (n := (((elO b1).length / 10 : Nat) : Int)) (by omega) (by omega), wrp (n := 1 + (((elO a1).length / 10 : Nat) : Int)) (by omega) (by omega), wrp (n := (1 + (((elO a1).length / 10 : Nat) : Int)) + (((elO b1).length / 10 : Nat) : Int)) (by omega) (by omega), wrp (by omega) (by omega)]
    refine w88 hx ⟨neZ (by decide), neZ (by decide), ?_⟩
    rw [show (fld (Dat.agg [.int .i64 k1, .str s1, .str r1, .int .i64 v1, a1, b1, .int .i64 p1]) 4) = a1 from rfl, show (fld (Dat.agg [.int .i64 k1, .str s1, .str r1, .int .i64 v1, a1, b1, .int .i64 p1]) 5) = b1 from rfl, hw]
    refine Bi.2 ⟨fun _ => hQ _ (by omega) (by omega) (fun h => by omega), fun q1 => Bi.2 ⟨fun _ => hQ _ (by omega) (by omega) (fun h => by omega), fun q2 => ?_⟩⟩
    have q1 := of_decide_eq_false q1
    have q2 := of_decide_eq_false q2
    have e1 : szx (ax (.agg [.int .i64 k1, .str s1, .str r1, .int .i64 v1, a1, b1, .int .i64 p1])) = 1 + szP (((elO b1).drop 0).map aP) + szE (((elO a1).drop 0).map ax) := by simp only [ax, szx, aA, abE, List.drop_zero]
    have e2 : dpEx (ax (.agg [.int .i64 k1, .str s1, .str r1, .int .i64 v1, a1, b1, .int .i64 p1])) = 1 + max (dP (((elO b1).drop 0).map aP)) (dpExs (((elO a1).drop 0).map ax)) := by simp only [ax, dpEx, aA, abE, List.drop_zero]
    rw [e1, e2] at hQ
    have args : ∀ m : Int, -1 ≤ m → m ≤ 20000 → (∀ r : Int, -1 ≤ r → r ≤ 20000 → (0 ≤ r → 0 ≤ m ∧ m + szE (((elO a1).drop 0).map ax) ≤ r ∧ d + (1 + dpExs (((elO a1).drop 0).map ax)) ≤ 601) → Qf (.val (.d (.int .i64 r))) g) → L88_9 d m 0 (.agg [.int .i64 k1, .str s1, .str r1, .int .i64 v1, a1, b1, .int .i64 p1]) g Qf := by
      refine lU (len := (elO a1).length) (fun i => ∀ m : Int, -1 ≤ m → m ≤ 20000 → (∀ r : Int, -1 ≤ r → r ≤ 20000 → (0 ≤ r → 0 ≤ m ∧ m + szE (((elO a1).drop i).map ax) ≤ r ∧ d + (1 + dpExs (((elO a1).drop i).map ax)) ≤ 601) → Qf (.val (.d (.int .i64 r))) g) → L88_9 d m (i : Int) (.agg [.int .i64 k1, .str s1, .str r1, .int .i64 v1, a1, b1, .int .i64 p1]) g Qf) ?_ ?_ 0 (Nat.zero_le _)
      · intro m m0 m1 hQ
        refine w88_9 ?_
        rw [show (fld (Dat.agg [.int .i64 k1, .str s1, .str r1, .int .i64 v1, a1, b1, .int .i64 p1]) 4) = a1 from rfl, Bg]
        exact hQ _ m0 m1 fun hr => by rw [List.drop_length]; simp only [List.map_nil, szE, dpExs]; omega
      · intro i hi ih m m0 m1 hQ
        refine w88_9 ?_
        rw [show (fld (Dat.agg [.int .i64 k1, .str s1, .str r1, .int .i64 v1, a1, b1, .int .i64 p1]) 4) = a1 from rfl, Bl hi, geE hi]
        refine Bi.2 ⟨fun q => ⟨inB hi, ?_⟩, fun q => hQ _ m0 m1 fun hr => by have := of_decide_eq_false q; omega⟩
        have hsz := siz hi
        rw [wrp (by omega) (by omega)]
        refine weighExpr_all k _ g _ _ (by omega) (ex.2 _ (List.getElem_mem hi)) (by omega) (by omega) (of_decide_eq_true q) m1 _ fun r r0 r1 hr => ⟨_, rfl, ?_⟩
        rw [wra (by omega)]
        refine ih r r0 r1 fun r' s0 s1 hr' => hQ r' s0 s1 fun h' => ?_
        rw [szExs_drop hi, dpExs_drop hi]
        have a := hr' h'
        have b := hr a.1
        have c := of_decide_eq_true q
        omega
    refine lU (len := (elO b1).length) (fun i => ∀ m : Int, -1 ≤ m → m ≤ 20000 → (∀ r : Int, -1 ≤ r → r ≤ 20000 → (0 ≤ r → 0 ≤ m ∧ m + szP (((elO b1).drop i).map aP) + szE (((elO a1).drop 0).map ax) ≤ r ∧ d + (1 + max (dP (((elO b1).drop i).map aP)) (dpExs (((elO a1).drop 0).map ax))) ≤ 601) → Qf (.val (.d (.int .i64 r))) g) → L88_5 d m (i : Int) (.agg [.int .i64 k1, .str s1, .str r1, .int .i64 v1, a1, b1, .int .i64 p1]) g Qf) ?_ ?_ 0 (Nat.zero_le _) _ (by omega) (by omega) (fun r r0 r1 h => hQ r r0 r1 fun hr => ⟨by have := (h hr).2.1; omega, by have := (h hr).2.2; omega⟩)
    · intro m m0 m1 hQ
      refine w88_5 ?_
      rw [show (fld (Dat.agg [.int .i64 k1, .str s1, .str r1, .int .i64 v1, a1, b1, .int .i64 p1]) 5) = b1 from rfl, Bg]
      refine args m m0 m1 fun r r0 r1 h => hQ r r0 r1 fun hr => ?_
      rw [List.drop_length]
      have := h hr
      simp only [List.map_nil, szP, dP]
      omega
    · intro i hi ih m m0 m1 hQ
      refine w88_5 ?_
      rw [show (fld (Dat.agg [.int .i64 k1, .str s1, .str r1, .int .i64 v1, a1, b1, .int .i64 p1]) 5) = b1 from rfl, Bl hi, geE hi]
      refine Bi.2 ⟨fun q => ⟨inB hi, ?_⟩, fun q => args m m0 m1 fun r r0 r1 h => hQ r r0 r1 fun hr => by have := of_decide_eq_false q; have := h hr; omega⟩
      rw [wrp (by omega) (by omega)]
      refine weighPat_all _ _ g _ _ (Nat.lt_succ_self _) (eu.2 _ (List.getElem_mem hi)) (by omega) (by omega) (of_decide_eq_true q) m1 _ fun r r0 r1 hr => ⟨_, rfl, ?_⟩
      rw [wra (by omega)]
      refine ih r r0 r1 fun r' s0 s1 hr' => hQ r' s0 s1 fun h' => ?_
      rw [szt hi, dpPts_drop hi]
      have a := hr' h'
      have b := hr a.1
      have c := of_decide_eq_true q
      omega
end Go.Proofs.YtgmapdcdmomioaaGreatDoor.Pa
namespace Go.Proofs.YtgmapdcdmomioaaGreatDoor.Pa
open Go Go.Proofs.YtgmapdcdmomioaaGreatDoor.Am
def SmTy (x : Dat) : Prop := ndTy (aT x) ≤ 20000 ∧ dpTy (aT x) ≤ 601
def SmCn (c : Dat) : Prop := ∀ t ∈ elO (fld c 1), SmTy t
def SmDc (d : Dat) : Prop := ∀ c ∈ elO (fld d 2), SmCn c
theorem all_step {xs : List Dat} {i : Nat} {P : Dat → Prop} (hi : i < xs.length) (h : ∀ j (hj : j < i), P (xs[j]'(by omega))) (hp : P xs[i]) : ∀ j (hj : j < i + 1), P (xs[j]'(by omega)) := fun j hj => by
  rcases Nat.lt_or_ge j i with q | q
  · exact h j q
  · have : j = i := by omega
    subst this
    exact hp
theorem all_done {xs : List Dat} {P : Dat → Prop} (h : ∀ j (hj : j < xs.length), P xs[j]) : ∀ x ∈ xs, P x := fun x hx => by
  obtain ⟨j, hj, rfl⟩ := List.mem_iff_getElem.1 hx
  exact h j hj
theorem largeDecls_all (x : Dat) (g : Glob) (hx : Ha TT 23 x) (Qf : OGP) (hT : Qf (.val (.d (.bool true))) g) (hF : (∀ d ∈ elO x, SmDc d) → Qf (.val (.d (.bool false))) g) : EvF TT 58 [x] g Qf := by
  have ex := hx.els uD
  have exl := ex.1.1
  refine w58 hx (Bi.2 ⟨fun _ => hT, fun _ => ?_⟩)
  refine lU (len := (elO x).length) (fun i => ∀ n : Int, 0 ≤ n → n ≤ 20000 → (hb : i ≤ (elO x).length) → (∀ j (hj : j < i), SmDc ((elO x)[j]'(by omega))) → L58_5 x n (i : Int) g Qf) ?_ ?_ 0 (Nat.zero_le _) 0 (by omega) (by omega) (Nat.zero_le _) (fun j hj => by omega)
  · intro n n0 n1 hb hd
    refine w58_5 ?_
    rw [Bg]
    exact hF (all_done hd)
  · intro i hi ih n n0 n1 hb hd
    refine w58_5 ?_
    rw [Bl hi]
    refine ⟨inB hi, Bi.2 ⟨fun _ => hT, fun _ => ⟨inB hi, Bi.2 ⟨fun _ => hT, fun _ => ?_⟩⟩⟩⟩
    obtain ⟨s1, a1, b1, p1, e1, hs1, ta1, tb1⟩ := det (ex.2 _ (List.getElem_mem hi))
    have hf : fld (gtE (elO x) (i : Int)) 2 = b1 := by rw [geE hi, e1]; rfl
    have hf' : fld (elO x)[i] 2 = b1 := by rw [e1]; rfl
    have eb := tb1.els uC
    have ebl := eb.1.1
    refine lU (len := (elO b1).length) (fun j => ∀ n : Int, 0 ≤ n → n ≤ 20000 → (hb : j ≤ (elO b1).length) → (∀ q (hq : q < j), SmCn ((elO b1)[q]'(by omega))) → L58_10 x n (i : Int) (j : Int) g Qf) ?_ ?_ 0 (Nat.zero_le _) n n0 n1 (Nat.zero_le _) (fun j hj => by omega)
    · intro n n0 n1 hb hc
      refine w58_10 ⟨inB hi, ?_⟩
      rw [hf, Bg, wra (by omega)]
      exact ih n n0 n1 (by omega) (all_step hi hd (by unfold SmDc; rw [hf']; exact all_done hc))
    · intro j hj ihj n n0 n1 hb hc
      refine w58_10 ⟨inB hi, ?_⟩
      rw [hf, Bl hj]
      refine ⟨inB hi, inB hj, Bi.2 ⟨fun _ => hT, fun _ => ?_⟩⟩
      obtain ⟨t1, f1, d1, ht1, tf1⟩ := con_ty (eb.2 _ (List.getElem_mem hj))
      have hf2 : fld (gtE (elO b1) (j : Int)) 1 = f1 := by rw [geE hj, d1]; rfl
      have hf2' : fld (elO b1)[j] 1 = f1 := by rw [d1]; rfl
      have ef := tf1.els uT
      have efl := ef.1.1
      refine lU (len := (elO f1).length) (fun q => ∀ n : Int, -1 ≤ n → n ≤ 20000 → (hb : q ≤ (elO f1).length) → (0 ≤ n → ∀ u (hu : u < q), SmTy ((elO f1)[u]'(by omega))) → L58_15 x n (i : Int) (j : Int) (q : Int) g Qf) ?_ ?_ 0 (Nat.zero_le _) n (by omega) n1 (Nat.zero_le _) (fun _ j hj => by omega)
      · intro n n0 n1 hb hu
        refine w58_15 ⟨inB hi, ?_⟩
        rw [hf, hf2, Bg]
        refine ⟨inB hj, Bi.2 ⟨fun _ => hT, fun q => ?_⟩⟩
        have q := of_decide_eq_false q
        rw [wra (by omega)]
        exact ihj n (by omega) n1 (by omega) (all_step hj hc (by unfold SmCn; rw [hf2']; exact all_done (hu (by omega))))
      · intro q hq ihq n n0 n1 hb hu
        refine w58_15 ⟨inB hi, ?_⟩
        rw [hf, hf2, Bl hq]
        refine ⟨inB hj, Bi.2 ⟨fun p => ⟨inB hi, inB hj, inB hq, ?_⟩, fun p => Bi.2 ⟨fun _ => hT, fun p' => ?_⟩⟩⟩
        · rw [geE hq]
          have p := of_decide_eq_true p
          refine weighType_all _ _ g _ _ (Nat.lt_succ_self _) (ef.2 _ (List.getElem_mem hq)) (by omega) (by omega) p n1 _ fun r r0 r1 hr => ⟨_, rfl, ?_⟩
          rw [wra (by omega)]
          exact ihq r r0 r1 (by omega) fun hr0 => all_step hq (hu p) ⟨by have := (hr hr0).1; omega, by have := (hr hr0).2; omega⟩
        · have p := of_decide_eq_false p
          have p' := of_decide_eq_false p'
          omega
theorem large_all (x : Dat) (g : Glob) (hx : Ha TT 29 x) (Qf : OGP) (hT : Qf (.val (.d (.bool true))) g)
    (hF : (∀ d ∈ elO (fld x 0), SmDc d) → szx (abP x).e ≤ 20000 → dpEx (abP x).e ≤ 601 → Qf (.val (.d (.bool false))) g) : EvF TT 21 [x] g Qf := by
  refine w21 hx ?_
  obtain ⟨d1, k1, s1, r1, n1, a1, b1, p1, rfl, hd1, he1⟩ := pro hx
  refine largeDecls_all d1 g hd1 _ ⟨_, rfl, Bi.2 ⟨fun _ => hT, fun h => (by cases h)⟩⟩ fun hs => ⟨_, rfl, Bi.2 ⟨fun h => (by cases h), fun _ => ?_⟩⟩
  refine w37 he1 (weighExpr_all _ _ g _ _ (Nat.lt_succ_self _) he1 (by omega) (by omega) (by omega) (by omega) _ fun r l0 l1 hr => ⟨_, rfl, ⟨_, rfl, ?_⟩⟩)
  by_cases h : r < 0
  · rw [decide_eq_true h]; exact hT
  · rw [decide_eq_false h]
    have := hr (by omega)
    refine hF hs ?_ ?_
    · show szx (ax (.agg [.int .i64 k1, .str s1, .str r1, .int .i64 n1, a1, b1, .int .i64 p1])) ≤ 20000
      omega
    · show dpEx (ax (.agg [.int .i64 k1, .str s1, .str r1, .int .i64 n1, a1, b1, .int .i64 p1])) ≤ 601
      omega
end Go.Proofs.YtgmapdcdmomioaaGreatDoor.Pa
namespace Go.Proofs.YtgmapdcdmomioaaGreatDoor.Pa
open Go Go.Proofs.YtgmapdcdmomioaaGreatDoor.Am
def L105_3 (n3 : Int) (x7 : Dat) (n8 : Int) (n9 : Int) (g : Glob) (Qf : OGP) : Prop := CP TT Tryz.f105 [1, 1, 0, 1, 0] Qf (mkC TT 105 Tryz.f105 1 [(3, .v 3 (.int .i64 n3)), (7, .v 89 (x7)), (8, .v 3 (.int .i64 n8)), (9, .v 3 (.int .i64 n9))] [] g)
def lo105 : List CuI := [⟨3, [(3, .keep), (7, .keep), (8, .keep), (9, .keep)], []⟩]
theorem w105 {x0 : Dat} {g : Glob} {Qf : OGP} (h0 : Ha TT 94 x0)
    (h : L105_3 0 (fld x0 3) (↑(elO (fld x0 3)).length : Int) 0 g Qf) :
    EvF TT 105 [x0] g Qf :=
  su (rk := rk) (fn := Tryz.f105) (loops := lo105) (joins := []) (n := 100000) (args := [(94, x0)]) rfl rfl rfl rfl ⟨h0, trivial⟩ (by kernel_rfl) h
theorem w105_3 {n3 : Int} {x7 : Dat} {n8 : Int} {n9 : Int} {g : Glob} {Qf : OGP} 
    (h : Br (decide (n9 < n8)) (InB n9 (elO x7).length ∧ EvF TT 105 [gtE (elO x7) n9] g (KQ Qf fun v g' => ∃ n, v = .d (.int .i64 n) ∧ L105_3 (maxS true n3 n) x7 n8 (IntKind.i64.wrap (n9 + 1)) g' Qf)) (Qf (.val (.d (.int .i64 (IntKind.i64.wrap (n3 + 1))))) g)) :
    L105_3 n3 x7 n8 n9 g Qf := sxc (rk := rk) (loops := lo105) (joins := []) (n := 100000) (by kernel_rfl) h
def L186_3 (n3 : Int) (x7 : Dat) (n8 : Int) (n9 : Int) (g : Glob) (Qf : OGP) : Prop := CP TT Tryz.f186 [1, 1, 0, 1, 0] Qf (mkC TT 186 Tryz.f186 1 [(3, .v 3 (.int .i64 n3)), (7, .v 25 (x7)), (8, .v 3 (.int .i64 n8)), (9, .v 3 (.int .i64 n9))] [] g)
def lo186 : List CuI := [⟨3, [(3, .keep), (7, .keep), (8, .keep), (9, .keep)], []⟩]
theorem w186 {x0 : Dat} {g : Glob} {Qf : OGP} (h0 : Ha TT 127 x0)
    (h : L186_3 0 (fld x0 3) (↑(elO (fld x0 3)).length : Int) 0 g Qf) :
    EvF TT 186 [x0] g Qf :=
  su (rk := rk) (fn := Tryz.f186) (loops := lo186) (joins := []) (n := 100000) (args := [(127, x0)]) rfl rfl rfl rfl ⟨h0, trivial⟩ (by kernel_rfl) h
theorem w186_3 {n3 : Int} {x7 : Dat} {n8 : Int} {n9 : Int} {g : Glob} {Qf : OGP} 
    (h : Br (decide (n9 < n8)) (InB n9 (elO x7).length ∧ EvF TT 186 [gtE (elO x7) n9] g (KQ Qf fun v g' => ∃ n, v = .d (.int .i64 n) ∧ L186_3 (maxS true n3 n) x7 n8 (IntKind.i64.wrap (n9 + 1)) g' Qf)) (Qf (.val (.d (.int .i64 (IntKind.i64.wrap (n3 + 1))))) g)) :
    L186_3 n3 x7 n8 n9 g Qf := sxc (rk := rk) (loops := lo186) (joins := []) (n := 100000) (by kernel_rfl) h
def L104_3 (n3 : Int) (x9 : Dat) (n10 : Int) (n11 : Int) (y1 : Dat) (g : Glob) (Qf : OGP) : Prop := CP TT Tryz.f104 [1, 1, 0, 1, 0] Qf (mkC TT 104 Tryz.f104 1 [(1, .loc 1 0 0), (3, .v 3 (.int .i64 n3)), (9, .v 25 (x9)), (10, .v 3 (.int .i64 n10)), (11, .v 3 (.int .i64 n11))] [(1, .whole 27 y1)] g)
def L104_8 (n3 : Int) (x21 : Dat) (n22 : Int) (n23 : Int) (g : Glob) (Qf : OGP) : Prop := CP TT Tryz.f104 [1, 1, 1, 0, 1, 0] Qf (mkC TT 104 Tryz.f104 1 [(3, .v 3 (.int .i64 n3)), (21, .v 24 (x21)), (22, .v 3 (.int .i64 n22)), (23, .v 3 (.int .i64 n23))] [] g)
def lo104 : List CuI := [⟨3, [(1, .keep), (3, .keep), (9, .keep), (10, .keep), (11, .keep)], [(1, .whole 27)]⟩, ⟨8, [(3, .keep), (21, .keep), (22, .keep), (23, .keep)], []⟩]
theorem w104 {x0 : Dat} {g : Glob} {Qf : OGP} (h0 : Ha TT 27 x0)
    (h : L104_3 0 (fld x0 5) (↑(elO (fld x0 5)).length : Int) 0 x0 g Qf) :
    EvF TT 104 [x0] g Qf :=
  su (rk := rk) (fn := Tryz.f104) (loops := lo104) (joins := []) (n := 100000) (args := [(27, x0)]) rfl rfl rfl rfl ⟨h0, trivial⟩ (by kernel_rfl) h
theorem w104_3 {n3 : Int} {x9 : Dat} {n10 : Int} {n11 : Int} {y1 : Dat} {g : Glob} {Qf : OGP} 
    (h : Br (decide (n11 < n10)) (InB n11 (elO x9).length ∧ EvF TT 186 [gtE (elO x9) n11] g (KQ Qf fun v g' => ∃ n, v = .d (.int .i64 n) ∧ L104_3 (maxS true n3 n) x9 n10 (IntKind.i64.wrap (n11 + 1)) y1 g' Qf)) (L104_8 n3 (fld y1 4) (↑(elO (fld y1 4)).length : Int) 0 g Qf)) :
    L104_3 n3 x9 n10 n11 y1 g Qf := sxc (rk := rk) (loops := lo104) (joins := []) (n := 100000) (by kernel_rfl) h
theorem w104_8 {n3 : Int} {x21 : Dat} {n22 : Int} {n23 : Int} {g : Glob} {Qf : OGP} 
    (h : Br (decide (n23 < n22)) (InB n23 (elO x21).length ∧ EvF TT 104 [gtE (elO x21) n23] g (KQ Qf fun v g' => ∃ n, v = .d (.int .i64 n) ∧ L104_8 (maxS true n3 n) x21 n22 (IntKind.i64.wrap (n23 + 1)) g' Qf)) (Qf (.val (.d (.int .i64 (IntKind.i64.wrap (n3 + 1))))) g)) :
    L104_8 n3 x21 n22 n23 g Qf := sxc (rk := rk) (loops := lo104) (joins := []) (n := 100000) (by kernel_rfl) h
end Go.Proofs.YtgmapdcdmomioaaGreatDoor.Pa
namespace Go.Proofs.YtgmapdcdmomioaaGreatDoor.Pa
open Go Go.Proofs.YtgmapdcdmomioaaGreatDoor.Am
theorem maxS_nat (a b : Nat) : maxS true (a : Int) (b : Int) = ((max a b : Nat) : Int) := by
  simp only [maxS, if_true]
  split <;> omega
theorem typeDeep_ok : ∀ (k : Nat) (x : Dat) (g : Glob), SizeOf.sizeOf x < k → Ha TT 94 x → dpTy (aT x) ≤ 20000 → ∀ (Qf : OGP), Qf (.val (.d (.int .i64 (dpTy (aT x) : Nat)))) g → EvF TT 105 [x] g Qf
  | 0, x, g, hk, _, _ => by omega
  | k + 1, x, g, hk, hx, hd => by
    intro Qf hQ
    refine w105 hx ?_
    obtain ⟨k1, s1, v1, a1, rfl, hs1, t1⟩ := type_ty hx
    have ex := t1.els uT
    have exl := ex.1.1
    have hc := sO (cs := [.int .i64 k1, .str s1, .int .i64 v1, a1]) (c := a1) (by simp)
    have e2 : dpTy (aT (.agg [.int .i64 k1, .str s1, .int .i64 v1, a1])) = 1 + dpT (((elO a1).drop 0).map aT) := by simp only [aT, dpTy, ay, List.drop_zero]
    rw [e2] at hQ hd
    rw [show (fld (Dat.agg [.int .i64 k1, .str s1, .int .i64 v1, a1]) 3) = a1 from rfl]
    refine lU (len := (elO a1).length) (fun i => ∀ m : Nat, 1 + max m (dpT (((elO a1).drop i).map aT)) ≤ 20000 → Qf (.val (.d (.int .i64 ((1 + max m (dpT (((elO a1).drop i).map aT)) : Nat))))) g → L105_3 (m : Int) a1 ((elO a1).length : Int) (i : Int) g Qf) ?_ ?_ 0 (Nat.zero_le _) 0 (by omega) (by rw [Nat.zero_max]; exact hQ)
    · intro m hm hQ
      refine w105_3 ?_
      rw [Bg, wra (by omega)]
      rw [List.drop_length] at hQ
      simp only [List.map_nil, dpT, Nat.max_zero] at hQ
      rw [show m + 1 = 1 + m by omega]
      exact hQ
    · intro i hi ih m hm hQ
      refine w105_3 ?_
      rw [Bl hi, geE hi]
      refine ⟨inB hi, ?_⟩
      have hsz := siz hi
      rw [dpTys_drop hi] at hm hQ
      refine typeDeep_ok k _ g (by omega) (ex.2 _ (List.getElem_mem hi)) (by omega) _ ⟨_, rfl, ?_⟩
      rw [wra (by omega), maxS_nat]
      refine ih _ (by rw [Nat.max_assoc]; exact hm) (by rw [Nat.max_assoc]; exact hQ)
theorem patDeep_ok : ∀ (k : Nat) (x : Dat) (g : Glob), SizeOf.sizeOf x < k → Ha TT 127 x → dpPt (aP x) ≤ 20000 → ∀ (Qf : OGP), Qf (.val (.d (.int .i64 (dpPt (aP x) : Nat)))) g → EvF TT 186 [x] g Qf
  | 0, x, g, hk, _, _ => by omega
  | k + 1, x, g, hk, hx, hd => by
    intro Qf hQ
    refine w186 hx ?_
    obtain ⟨k1, s1, v1, a1, p1, rfl, hs1, t1⟩ := pat_ty hx
    have ex := t1.els uP
    have exl := ex.1.1
    have hc := sO (cs := [.int .i64 k1, .str s1, .int .i64 v1, a1, .int .i64 p1]) (c := a1) (by simp)
    have e2 : dpPt (aP (.agg [.int .i64 k1, .str s1, .int .i64 v1, a1, .int .i64 p1])) = 1 + dP (((elO a1).drop 0).map aP) := by simp only [aP, dpPt, aA, List.drop_zero]
    rw [e2] at hQ hd
    rw [show (fld (Dat.agg [.int .i64 k1, .str s1, .int .i64 v1, a1, .int .i64 p1]) 3) = a1 from rfl]
    refine lU (len := (elO a1).length) (fun i => ∀ m : Nat, 1 + max m (dP (((elO a1).drop i).map aP)) ≤ 20000 → Qf (.val (.d (.int .i64 ((1 + max m (dP (((elO a1).drop i).map aP)) : Nat))))) g → L186_3 (m : Int) a1 ((elO a1).length : Int) (i : Int) g Qf) ?_ ?_ 0 (Nat.zero_le _) 0 (by omega) (by rw [Nat.zero_max]; exact hQ)
    · intro m hm hQ
      refine w186_3 ?_
      rw [Bg, wra (by omega)]
      rw [List.drop_length] at hQ
      simp only [List.map_nil, dP, Nat.max_zero] at hQ
      rw [show m + 1 = 1 + m by omega]
      exact hQ
    · intro i hi ih m hm hQ
      refine w186_3 ?_
      rw [Bl hi, geE hi]
      refine ⟨inB hi, ?_⟩
      have hsz := siz hi
      rw [dpPts_drop hi] at hm hQ
      refine patDeep_ok k _ g (by omega) (ex.2 _ (List.getElem_mem hi)) (by omega) _ ⟨_, rfl, ?_⟩
      rw [wra (by omega), maxS_nat]
      refine ih _ (by rw [Nat.max_assoc]; exact hm) (by rw [Nat.max_assoc]; exact hQ)
theorem deep_ok : ∀ (k : Nat) (x : Dat) (g : Glob), SizeOf.sizeOf x < k → Ha TT 27 x → dpEx (ax x) ≤ 20000 → ∀ (Qf : OGP), Qf (.val (.d (.int .i64 (dpEx (ax x) : Nat)))) g → EvF TT 104 [x] g Qf
  | 0, x, g, hk, _, _ => by omega
  | k + 1, x, g, hk, hx, hd => by
    intro Qf hQ
    refine w104 hx ?_
    obtain ⟨k1, s1, r1, v1, a1, b1, p1, rfl, hs1, hr1, t1, u1⟩ := exr hx
    have ex := t1.els unE
    have exl := ex.1.1
    have eu := u1.els uP
    have eul := eu.1.1
    have hc := sO (cs := [.int .i64 k1, .str s1, .str r1, .int .i64 v1, a1, b1, .int .i64 p1]) (c := a1) (by simp)
    have e2 : dpEx (ax (.agg [.int .i64 k1, .str s1, .str r1, .int .i64 v1, a1, b1, .int .i64 p1])) = 1 + max (dP (((elO b1).drop 0).map aP)) (dpExs (((elO a1).drop 0).map ax)) := by simp only [ax, dpEx, aA, abE, List.drop_zero]
    rw [e2] at hQ hd
    rw [show (fld (Dat.agg [.int .i64 k1, .str s1, .str r1, .int .i64 v1, a1, b1, .int .i64 p1]) 5) = b1 from rfl]
    have args : ∀ m : Nat, 1 + max m (dpExs (((elO a1).drop 0).map ax)) ≤ 20000 → Qf (.val (.d (.int .i64 ((1 + max m (dpExs (((elO a1).drop 0).map ax)) : Nat))))) g → L104_8 (m : Int) a1 ((elO a1).length : Int) 0 g Qf := by
      refine lU (len := (elO a1).length) (fun i => ∀ m : Nat, 1 + max m (dpExs (((elO a1).drop i).map ax)) ≤ 20000 → Qf (.val (.d (.int .i64 ((1 + max m (dpExs (((elO a1).drop i).map ax)) : Nat))))) g → L104_8 (m : Int) a1 ((elO a1).length : Int) (i : Int) g Qf) ?_ ?_ 0 (Nat.zero_le _)
      · intro m hm hQ
        refine w104_8 ?_
        rw [Bg, wra (by omega)]
        rw [List.drop_length] at hQ
        simp only [List.map_nil, dpExs, Nat.max_zero] at hQ
        rw [show m + 1 = 1 + m by omega]
        exact hQ
      · intro i hi ih m hm hQ
        refine w104_8 ?_
        rw [Bl hi, geE hi]
        refine ⟨inB hi, ?_⟩
        have hsz := siz hi
        rw [dpExs_drop hi] at hm hQ
        refine deep_ok k _ g (by omega) (ex.2 _ (List.getElem_mem hi)) (by omega) _ ⟨_, rfl, ?_⟩
        rw [wra (by omega), maxS_nat]
        refine ih _ (by rw [Nat.max_assoc]; exact hm) (by rw [Nat.max_assoc]; exact hQ)
    refine lU (len := (elO b1).length) (fun i => ∀ m : Nat, 1 + max (max m (dP (((elO b1).drop i).map aP))) (dpExs (((elO a1).drop 0).map ax)) ≤ 20000 → Qf (.val (.d (.int .i64 ((1 + max (max m (dP (((elO b1).drop i).map aP))) (dpExs (((elO a1).drop 0).map ax)) : Nat))))) g → L104_3 (m : Int) b1 ((elO b1).length : Int) (i : Int) (.agg [.int .i64 k1, .str s1, .str r1, .int .i64 v1, a1, b1, .int .i64 p1]) g Qf) ?_ ?_ 0 (Nat.zero_le _) 0 (by rw [Nat.zero_max]; exact hd) (by rw [Nat.zero_max]; exact hQ)
    · intro m hm hQ
      refine w104_3 ?_
      rw [Bg, show (fld (Dat.agg [.int .i64 k1, .str s1, .str r1, .int .i64 v1, a1, b1, .int .i64 p1]) 4) = a1 from rfl]
      rw [List.drop_length] at hQ hm
      simp only [List.map_nil, dP, Nat.max_zero] at hQ hm
      exact args m hm hQ
    · intro i hi ih m hm hQ
      refine w104_3 ?_
      rw [Bl hi, geE hi]
      refine ⟨inB hi, ?_⟩
      rw [dpPts_drop hi] at hm hQ
      refine patDeep_ok _ _ g (Nat.lt_succ_self _) (eu.2 _ (List.getElem_mem hi)) (by omega) _ ⟨_, rfl, ?_⟩
      rw [wra (by omega), maxS_nat]
      refine ih _ (by rw [Nat.max_assoc m]; exact hm) (by rw [Nat.max_assoc m]; exact hQ)
end Go.Proofs.YtgmapdcdmomioaaGreatDoor.Pa
