/- What functions of the program do, printed by wip/tools/sx/sx.py. All types that there are, and where a constructor is: the law ScopeFinds answers true. -/
import Derived.Test.YtgmapdcdmomioaaGreatDoorRI
set_option linter.all false
set_option autoImplicit false
set_option maxRecDepth 100000
namespace Go.Proofs.YtgmapdcdmomioaaGreatDoor.Pa
open Go Go.Proofs.YtgmapdcdmomioaaGreatDoor.Am
def L158_3 (l3 : List Dat) (x6 : Dat) (n7 : Int) (n8 : Int) (g : Glob) (Qf : OGP) : Prop := CP TT Tryz.f158 [1, 1, 0, 1, 0] Qf (mkC TT 158 Tryz.f158 1 [(3, .acc [(19, 0)] 89 4 l3), (6, .v 89 (x6)), (7, .v 3 (.int .i64 n7)), (8, .v 3 (.int .i64 n8))] [] g)
def lo158 : List CuI := [⟨3, [(3, .acc [19]), (6, .keep), (7, .keep), (8, .keep)], []⟩]
theorem w158 {x0 : Dat} {g : Glob} {Qf : OGP} (h0 : Ha TT 89 x0)
    (h : L158_3 [] x0 (↑(elO x0).length : Int) 0 g Qf) :
    EvF TT 158 [x0] g Qf :=
  su (rk := rk) (fn := Tryz.f158) (loops := lo158) (joins := []) (n := 100000) (args := [(89, x0)]) rfl rfl rfl rfl ⟨h0, trivial⟩ (by kernel_rfl) h
theorem w158_3 {l3 : List Dat} {x6 : Dat} {n7 : Int} {n8 : Int} {g : Glob} {Qf : OGP} 
    (h : Br (decide (n8 < n7)) (InB n8 (elO x6).length ∧ EvF TT 158 [fld (gtE (elO x6) n8) 3] g (KQ Qf fun v g' => ∃ x, Ha TT 89 x ∧ Rt v x ∧ Fits (l3.length + [Dat.agg [.int .i64 (intOf (fld (gtE (elO x6) n8) 0)), .str (strOf (fld (gtE (elO x6) n8) 1)), .int .i64 (intOf (fld (gtE (elO x6) n8) 2)), x]].length) 56 ∧ L158_3 (l3 ++ [Dat.agg [.int .i64 (intOf (fld (gtE (elO x6) n8) 0)), .str (strOf (fld (gtE (elO x6) n8) 1)), .int .i64 (intOf (fld (gtE (elO x6) n8) 2)), x]]) x6 n7 (IntKind.i64.wrap (n8 + 1)) g' Qf)) (Qf (.val (retOf 4 l3)) g)) :
    L158_3 l3 x6 n7 n8 g Qf := sxc (rk := rk) (loops := lo158) (joins := []) (n := 100000) (by kernel_rfl) h
def L85_4 (l3 : List Dat) (x11 : Dat) (n12 : Int) (n13 : Int) (y2 : Dat) (y1 : Dat) (g : Glob) (Qf : OGP) : Prop := CP TT Tryz.f85 [1, 1, 1, 0, 1, 0] Qf (mkC TT 85 Tryz.f85 1 [(1, .loc 1 0 0), (2, .loc 2 0 0), (3, .acc [(25, 0)] 74 2 l3), (11, .v 74 (x11)), (12, .v 3 (.int .i64 n12)), (13, .v 3 (.int .i64 n13))] [(2, .whole 76 y2), (1, .whole 76 y1)] g)
def lo85 : List CuI := [⟨4, [(1, .keep), (2, .keep), (3, .acc [25]), (11, .read), (12, .keep), (13, .keep)], [(2, .whole 76), (1, .whole 76)]⟩]
theorem w85 {x0 : Dat} {g : Glob} {Qf : OGP} (h0 : Ha TT 76 x0)
    (h : EvF TT 157 [fld x0 1] g (KQ Qf fun v g' => ∃ x, Ha TT 61 x ∧ Rt v x ∧ L85_4 [] (fld x0 2) (↑(elO (fld x0 2)).length : Int) 0 (.agg [.str [], .nil, .nil, .int .i64 0]) (.agg [.str (strOf (fld x0 0)), x, fld x0 2, .int .i64 (intOf (fld x0 3))]) g' Qf)) :
    EvF TT 85 [x0] g Qf :=
  su (rk := rk) (fn := Tryz.f85) (loops := lo85) (joins := []) (n := 100000) (args := [(76, x0)]) rfl rfl rfl rfl ⟨h0, trivial⟩ (by kernel_rfl) h
theorem w85_4 {l3 : List Dat} {x11 : Dat} {n12 : Int} {n13 : Int} {y2 : Dat} {y1 : Dat} {g : Glob} {Qf : OGP} 
    (h : Br (decide (n13 < n12)) (InB n13 (elO x11).length ∧ EvF TT 158 [fld (gtE (elO x11) n13) 1] g (KQ Qf fun v g' => ∃ x, Ha TT 89 x ∧ Rt v x ∧ Fits (l3.length + [Dat.agg [.str (strOf (fld (gtE (elO x11) n13) 0)), x]].length) 40 ∧ L85_4 (l3 ++ [Dat.agg [.str (strOf (fld (gtE (elO x11) n13) 0)), x]]) x11 n12 (IntKind.i64.wrap (n13 + 1)) y2 y1 g' Qf)) (Qf (.val (.d (.agg [.str (strOf (.str (strOf (fld y1 0)))), fld (.agg [.str (strOf (fld y1 0)), fld y1 1, sOf 2 l3, .int .i64 (intOf (fld y1 3))]) 1, fld (.agg [.str (strOf (fld y1 0)), fld y1 1, sOf 2 l3, .int .i64 (intOf (fld y1 3))]) 2, .int .i64 (intOf (.int .i64 (intOf (fld y1 3))))]))) g)) :
    L85_4 l3 x11 n12 n13 y2 y1 g Qf := sxc (rk := rk) (loops := lo85) (joins := []) (n := 100000) (by kernel_rfl) h
def L31_3 (l3 : List Dat) (x25 : Dat) (n26 : Int) (n27 : Int) (g : Glob) (Qf : OGP) : Prop := CP TT Tryz.f31 [1, 1, 0, 1, 0] Qf (mkC TT 31 Tryz.f31 1 [(3, .own 23 0 23 4 l3), (25, .v 23 (x25)), (26, .v 3 (.int .i64 n26)), (27, .v 3 (.int .i64 n27))] [] g)
def lo31 : List CuI := [⟨3, [(3, .keep), (25, .keep), (26, .keep), (27, .keep)], []⟩]
theorem w31 {x0 : Dat} {g : Glob} {Qf : OGP} (h0 : Ha TT 29 x0)
    (h : L31_3 [.agg [.str [117, 110, 105, 116], .nil, .sl 2 [.agg [.str [85, 110, 105, 116], .nil]], .int .i64 0], .agg [.str [98, 111, 111, 108], .nil, .sl 2 [.agg [.str [70, 97, 108, 115, 101], .nil], .agg [.str [84, 114, 117, 101], .nil]], .int .i64 0], .agg [.str [108, 105, 115, 116], .sl 1 [.str [97]], .sl 2 [.agg [.str [78, 105, 108], .nil], .agg [.str [67, 111, 110, 115], .sl 4 [.agg [.int .i64 2, .str [97], .int .i64 0, .nil], .agg [.int .i64 4, .str [108, 105, 115, 116], .int .i64 0, .sl 4 [.agg [.int .i64 2, .str [97], .int .i64 0, .nil]]]]]], .int .i64 0]] (fld x0 0) (↑(elO (fld x0 0)).length : Int) 0 g Qf) :
    EvF TT 31 [x0] g Qf :=
  su (rk := rk) (fn := Tryz.f31) (loops := lo31) (joins := []) (n := 100000) (args := [(29, x0)]) rfl rfl rfl rfl ⟨h0, trivial⟩ (by kernel_rfl) h
theorem w31_3 {l3 : List Dat} {x25 : Dat} {n26 : Int} {n27 : Int} {g : Glob} {Qf : OGP} 
    (h : Br (decide (n27 < n26)) (InB n27 (elO x25).length ∧ EvF TT 85 [gtE (elO x25) n27] g (KQ Qf fun v g' => ∃ x, Ha TT 76 x ∧ v = .d x ∧ Fits (l3.length + [x].length) 72 ∧ L31_3 (l3 ++ [x]) x25 n26 (IntKind.i64.wrap (n27 + 1)) g' Qf)) (Qf (.val (.uq 4 l3)) g)) :
    L31_3 l3 x25 n26 n27 g Qf := sxc (rk := rk) (loops := lo31) (joins := []) (n := 100000) (by kernel_rfl) h
def L34_2 (s1 : List UInt8) (x11 : Dat) (n12 : Int) (n13 : Int) (g : Glob) (Qf : OGP) : Prop := CP TT Tryz.f34 [1, 0, 1, 0] Qf (mkC TT 34 Tryz.f34 2 [(1, .v 9 (.str s1)), (11, .v 23 (x11)), (12, .v 3 (.int .i64 n12)), (13, .v 3 (.int .i64 n13))] [] g)
def L34_5 (s1 : List UInt8) (n7 : Int) (x11 : Dat) (n12 : Int) (n13 : Int) (x19 : Dat) (n20 : Int) (n21 : Int) (g : Glob) (Qf : OGP) : Prop := CP TT Tryz.f34 [1, 0, 1, 0, 0, 1, 1, 0, 0, 1, 1, 0] Qf (mkC TT 34 Tryz.f34 2 [(1, .v 9 (.str s1)), (7, .v 3 (.int .i64 n7)), (11, .v 23 (x11)), (12, .v 3 (.int .i64 n12)), (13, .v 3 (.int .i64 n13)), (19, .v 74 (x19)), (20, .v 3 (.int .i64 n20)), (21, .v 3 (.int .i64 n21))] [] g)
def lo34 : List CuI := [⟨2, [(1, .keep), (11, .keep), (12, .keep), (13, .keep)], []⟩, ⟨5, [(1, .keep), (7, .keep), (11, .keep), (12, .keep), (13, .keep), (19, .keep), (20, .keep), (21, .keep)], []⟩]
theorem w34 {x0 : Dat} {s1 : List UInt8} {g : Glob} {Qf : OGP} (h0 : Ha TT 23 x0) (h1 : s1.length ≤ 2 ^ 40)
    (h : L34_2 s1 x0 (↑(elO x0).length : Int) 0 g Qf) :
    EvF TT 34 [x0, .str s1] g Qf :=
  su (rk := rk) (fn := Tryz.f34) (loops := lo34) (joins := []) (n := 100000) (args := [(23, x0), (9, .str s1)]) rfl rfl rfl rfl ⟨h0, tyStr rfl h1, trivial⟩ (by kernel_rfl) h
theorem w34_2 {s1 : List UInt8} {x11 : Dat} {n12 : Int} {n13 : Int} {g : Glob} {Qf : OGP} 
    (h : Br (decide (n13 < n12)) (InB n13 (elO x11).length ∧ L34_5 s1 n13 x11 n12 n13 (fld (gtE (elO x11) n13) 2) (↑(elO (fld (gtE (elO x11) n13) 2)).length : Int) 0 g Qf) (Qf (.val (.tuple [.d (.int .i64 0), .d (.int .i64 0), .d (.bool false)])) g)) :
    L34_2 s1 x11 n12 n13 g Qf := sxc (rk := rk) (loops := lo34) (joins := []) (n := 100000) (by kernel_rfl) h
theorem w34_5 {s1 : List UInt8} {n7 : Int} {x11 : Dat} {n12 : Int} {n13 : Int} {x19 : Dat} {n20 : Int} {n21 : Int} {g : Glob} {Qf : OGP} 
    (h : Br (decide (n21 < n20)) (InB n21 (elO x19).length ∧ Br (strOf (fld (gtE (elO x19) n21) 0) == s1) (Qf (.val (.tuple [.d (.int .i64 n7), .d (.int .i64 n21), .d (.bool true)])) g) (L34_5 s1 n7 x11 n12 n13 x19 n20 (IntKind.i64.wrap (n21 + 1)) g Qf)) (L34_2 s1 x11 n12 (IntKind.i64.wrap (n13 + 1)) g Qf)) :
    L34_5 s1 n7 x11 n12 n13 x19 n20 n21 g Qf := sxc (rk := rk) (loops := lo34) (joins := []) (n := 100000) (by kernel_rfl) h
end Go.Proofs.YtgmapdcdmomioaaGreatDoor.Pa
namespace Go.Proofs.YtgmapdcdmomioaaGreatDoor.Pa
open Go Go.Proofs.YtgmapdcdmomioaaGreatDoor.Am
theorem twins_ok : ∀ (k : Nat) (x : Dat) (g : Glob), SizeOf.sizeOf x < k → Ha TT 89 x → ∀ (Qf : OGP), (∀ l : List Dat, (∀ y ∈ l, Ha TT 94 y) → l.length = (elO x).length → l.map aT = (elO x).map aT → Qf (.val (retOf 4 l)) g) → EvF TT 158 [x] g Qf
  | 0, x, g, hk, _ => by omega
  | k + 1, x, g, hk, hx => by
    intro Qf hQ
    have ex := hx.els uT
    have exl := ex.1.1
    refine w158 hx ?_
    refine lU (len := (elO x).length) (fun i => ∀ l : List Dat, l.length = i → (∀ y ∈ l, Ha TT 94 y) → l.map aT = ((elO x).take i).map aT → L158_3 l x ((elO x).length : Int) (i : Int) g Qf) ?_ ?_ 0 (Nat.zero_le _) [] rfl (fun y h => by cases h) rfl
    · intro l h1 h2 h3
      refine w158_3 ?_
      rw [Bg]
      rw [List.take_length] at h3
      exact hQ l h2 h1 h3
    · intro i hi ih l h1 h2 h3
      refine w158_3 ?_
      rw [Bl hi, geE hi]
      have hsz := siz hi
      obtain ⟨k1, s1, n1, a1, e1, hs1, t1⟩ := type_ty (ex.2 _ (List.getElem_mem hi))
      have hab : aT (elO x)[i] = .mk k1 s1 n1 (abT a1) := by rw [e1]; rfl
      rw [e1] at hsz ⊢
      have hc := sO (cs := [.int .i64 k1, .str s1, .int .i64 n1, a1]) (c := a1) (by simp)
      refine ⟨inB hi, twins_ok k a1 g (by omega) t1 _ fun l' hl' hn' ha' => ?_⟩
      have ta : Ha TT 89 (sOf 4 l') := slf uT szType (by rw [hn']; exact (t1.els uT).1) hl'
      refine ⟨sOf 4 l', ta, rf _ _, (ex.1.le (by simp; omega)).fits byType, ?_⟩
      rw [wra (by omega)]
      refine ih _ (by simp [h1]) (fun y hy => ?_) (take_snoc hi h3 ?_)
      · rcases List.mem_append.1 hy with hy | hy
        · exact h2 y hy
        · simp only [List.mem_singleton] at hy; subst hy; exact ty_type hs1 ta
      · rw [hab]
        show Ty.mk k1 s1 n1 (abT (sOf 4 l')) = _
        rw [ay, slO, ha', ← ay]
theorem allStr_ty : ∀ (l : List Dat), (∀ y ∈ l, Ha TT 9 y) → allStr l = true
  | [], _ => rfl
  | x :: l, h => by
    obtain ⟨s, rfl, _⟩ := str_ty (h x (by simp))
    exact allStr_ty l fun y hy => h y (List.mem_cons_of_mem _ hy)
theorem elsOf_sl (m : Nat) (xs : List Dat) : elO (.sl m xs) = xs := rfl
theorem clone_ok (x : Dat) (g : Glob) (hx : Ha TT 61 x) (Qf : OGP) (hQ : Qf (.val (.d (.sl 1 (elO x)))) g) : EvF TT 157 [x] g Qf := by
  refine clone_raw (r := .val (.d (.sl 1 (elO x)))) g ?_ Qf hQ
  have ex := hx.els uS
  cases x with
  | nil => rfl
  | gsl t m xs =>
    have h1 : allStr xs = true := allStr_ty xs ex.2
    have h2 : xs.length ≤ 2 ^ 40 := ex.1.1
    have h3 : m = 1 := by
      cases hx with
      | gsl _ e _ _ _ h hm _ _ =>
        rw [uS] at h
        cases h
        rw [szStr] at hm
        cases hm
        rfl
    subst h3
    show (bif Nat.beq 1 1 && allStr xs && Nat.ble xs.length 8796093022208 then some (Out.val (.d (.sl 1 xs)), g) else none) = _
    rw [h1, Nat.ble_eq_true_of_le (by omega)]
    rfl
  | sl m xs =>
    have h1 : allStr xs = true := allStr_ty xs ex.2
    have h2 : xs.length ≤ 2 ^ 40 := ex.1.1
    have h3 : m = 1 := by
      cases hx with
      | sl _ e _ _ h hm _ _ =>
        rw [uS] at h
        cases h
        rw [szStr] at hm
        cases hm
        rfl
    subst h3
    show (bif Nat.beq 1 1 && allStr xs && Nat.ble xs.length 8796093022208 then some (Out.val (.d (.sl 1 xs)), g) else none) = _
    rw [h1, Nat.ble_eq_true_of_le (by omega)]
    rfl
  | _ => exact absurd hx (by intro h; cases h <;> simp_all [uS, isB0, isI0, isP0, isM, isF, isI, isAgg?, isB, isP, z0])
theorem twin_ok (x : Dat) (g : Glob) (hx : Ha TT 76 x) (Qf : OGP) (hQ : ∀ r, Ha TT 76 r → abD r = abD x → Qf (.val (.d r)) g) : EvF TT 85 [x] g Qf := by
  refine w85 hx ?_
  obtain ⟨s2, a2, b2, p2, rfl, hs2, ha2, hb2⟩ := det hx
  have ea := ha2.els uS
  have eb := hb2.els uC
  have ebl := eb.1.1
  simp only [fld, nth, strOf, intOf]
  have hcl : Ha TT 61 (.sl 1 (elO a2)) := .sl _ _ _ _ uS szStr ea.1 ea.2
  refine clone_ok a2 g ha2 _ ⟨_, hcl, rfl, ?_⟩
  refine lU (len := (elO b2).length) (fun i => ∀ l : List Dat, l.length = i → (∀ y ∈ l, Ha TT 91 y) → l.map aC = ((elO b2).take i).map aC → L85_4 l b2 ((elO b2).length : Int) (i : Int) (Dat.agg [Dat.str [], Dat.nil, Dat.nil, Dat.int IntKind.i64 0]) (.agg [.str s2, .sl 1 (elO a2), b2, .int .i64 p2]) g Qf) ?_ ?_ 0 (Nat.zero_le _) [] rfl (fun y h => by cases h) rfl
  · intro l h1 h2 h3
    refine w85_4 ?_
    rw [Bg]
    rw [List.take_length] at h3
    have tl : Ha TT 74 (sOf 2 l) := slf uC szCon (by rw [h1]; exact eb.1) h2
    refine hQ (.agg [.str s2, .sl 1 (elO a2), sOf 2 l, .int .i64 p2]) (ty_decl hs2 hcl tl) ?_
    rw [absDc_agg, absDc_agg, slO, elsOf_sl, h3]
  · intro i hi ih l h1 h2 h3
    refine w85_4 ?_
    rw [Bl hi, geE hi]
    obtain ⟨s3, f1, e3, hs3, hf1⟩ := con_ty (eb.2 _ (List.getElem_mem hi))
    have hab : aC (elO b2)[i] = ⟨s3, abT f1⟩ := by rw [e3]; rfl
    rw [e3]
    refine ⟨inB hi, twins_ok _ f1 g (Nat.lt_succ_self _) hf1 _ fun l' hl' hn' ha' => ?_⟩
    have ta : Ha TT 89 (sOf 4 l') := slf uT szType (by rw [hn']; exact (hf1.els uT).1) hl'
    refine ⟨sOf 4 l', ta, rf _ _, (eb.1.le (by simp; omega)).fits byCon, ?_⟩
    rw [wra (by omega)]
    refine ih _ (by simp [h1]) (fun y hy => ?_) (take_snoc hi h3 ?_)
    · rcases List.mem_append.1 hy with hy | hy
      · exact h2 y hy
      · simp only [List.mem_singleton] at hy; subst hy; exact ty_con hs3 ta
    · rw [hab]
      show (⟨s3, abT (sOf 4 l')⟩ : Cn) = _
      rw [ay, slO, ha', ← ay]
def baseL : List Dat := [Dat.agg [Dat.str [117, 110, 105, 116], Dat.nil, Dat.sl 2 [Dat.agg [Dat.str [85, 110, 105, 116], Dat.nil]], Dat.int IntKind.i64 0], Dat.agg [Dat.str [98, 111, 111, 108], Dat.nil, Dat.sl 2 [Dat.agg [Dat.str [70, 97, 108, 115, 101], Dat.nil], Dat.agg [Dat.str [84, 114, 117, 101], Dat.nil]], Dat.int IntKind.i64 0], Dat.agg [Dat.str [108, 105, 115, 116], Dat.sl 1 [Dat.str [97]], Dat.sl 2 [Dat.agg [Dat.str [78, 105, 108], Dat.nil], Dat.agg [Dat.str [67, 111, 110, 115], Dat.sl 4 [Dat.agg [Dat.int IntKind.i64 2, Dat.str [97], Dat.int IntKind.i64 0, Dat.nil], Dat.agg [Dat.int IntKind.i64 4, Dat.str [108, 105, 115, 116], Dat.int IntKind.i64 0, Dat.sl 4 [Dat.agg [Dat.int IntKind.i64 2, Dat.str [97], Dat.int IntKind.i64 0, Dat.nil]]]]]], Dat.int IntKind.i64 0]]
theorem fitOf {e : TypeId} {b n : Nat} (he : TT.bytes e = some b) (hb : b ≤ 200) (h : n ≤ 2 ^ 30) : Sl TT e n := ⟨by omega, fun b' hb' => by
  rw [he] at hb'
  cases hb'
  have := Nat.mul_le_mul h hb
  omega⟩
theorem baseL_ty : ∀ y ∈ baseL, Ha TT 76 y := by
  have nilS : Ha TT 61 .nil := .nil _ (by rw [uS]; rfl)
  have nilT : Ha TT 89 .nil := .nil _ (by rw [uT]; rfl)
  have st : ∀ s : Str, s.length ≤ 30 → s.length ≤ 2 ^ 40 := fun s h => by omega
  have con : ∀ (s : Str) (a : Dat), s.length ≤ 30 → Ha TT 89 a → Ha TT 91 (.agg [.str s, a]) := fun s a h1 h2 => ty_con (st s h1) h2
  have cons : ∀ (xs : List Dat), xs.length ≤ 30 → xs ≠ [] → (∀ x ∈ xs, Ha TT 91 x) → Ha TT 74 (.sl 2 xs) := fun xs h1 h2 h3 => by
    have := sl_ty (xs := xs) uC szCon (fitOf byCon (by omega) (by omega)) h3
    cases xs with
    | nil => exact absurd rfl h2
    | cons a l => exact this
  have types : ∀ (xs : List Dat), xs.length ≤ 30 → xs ≠ [] → (∀ x ∈ xs, Ha TT 94 x) → Ha TT 89 (.sl 4 xs) := fun xs h1 h2 h3 => by
    have := sl_ty (xs := xs) uT szType (fitOf byType (by omega) (by omega)) h3
    cases xs with
    | nil => exact absurd rfl h2
    | cons a l => exact this
  have tv : Ha TT 94 (Dat.agg [Dat.int IntKind.i64 2, Dat.str [97], Dat.int IntKind.i64 0, Dat.nil]) := ty_type (by simp) nilT
  have tl : Ha TT 94 (Dat.agg [Dat.int IntKind.i64 4, Dat.str [108, 105, 115, 116], Dat.int IntKind.i64 0, Dat.sl 4 [Dat.agg [Dat.int IntKind.i64 2, Dat.str [97], Dat.int IntKind.i64 0, Dat.nil]]]) := ty_type (by simp) (types _ (by simp) (by simp) (by simpa using tv))
  intro y hy
  simp only [baseL, List.mem_cons, List.not_mem_nil, or_false] at hy
  rcases hy with rfl | rfl | rfl
  · exact ty_decl (by simp) nilS (cons _ (by simp) (by simp) (by simpa using con _ _ (by simp) nilT))
  · exact ty_decl (by simp) nilS (cons _ (by simp) (by simp) (by simpa using ⟨con _ _ (by simp) nilT, con _ _ (by simp) nilT⟩))
  · exact ty_decl (by simp) (ty_strs (l := [[97]]) (by simp) (by simp) (by simp)) (cons _ (by simp) (by simp) (by simpa using ⟨con _ _ (by simp) nilT, con _ _ (by simp) (types _ (by simp) (by simp) (by simpa using ⟨tv, tl⟩))⟩))
def alD (P : Pg) : List Dc := baseL.map abD ++ P.ds
theorem scopeAll_ok (x : Dat) (g : Glob) (hx : Ha TT 29 x) (hn : (abP x).ds.length ≤ 2 ^ 22) (Qf : OGP) (hQ : ∀ r, Ha TT 23 r → (elO r).map abD = alD (abP x) → ∀ v, Rt v r → Qf (.val v) g) : EvF TT 31 [x] g Qf := by
  refine w31 hx ?_
  obtain ⟨d1, k1, s1, r1, n1, a1, b1, p1, rfl, hd1, he1⟩ := pro hx
  have ed := hd1.els uD
  have hn : (elO d1).length ≤ 2 ^ 22 := by
    have : (abP (.agg [d1, .int .i64 k1, .str s1, .str r1, .int .i64 n1, a1, b1, .int .i64 p1])).ds.length = (elO d1).length := List.length_map _
    omega
  have h0 : fld (.agg [d1, .int .i64 k1, .str s1, .str r1, .int .i64 n1, a1, b1, .int .i64 p1]) 0 = d1 := rfl
  rw [h0]
  refine lU (len := (elO d1).length) (fun i => ∀ l : List Dat, l.length = 3 + i → (∀ y ∈ l, Ha TT 76 y) → l.map abD = baseL.map abD ++ ((elO d1).take i).map abD → L31_3 l d1 ((elO d1).length : Int) (i : Int) g Qf) ?_ ?_ 0 (Nat.zero_le _) baseL rfl baseL_ty (by simp)
  · intro l h1 h2 h3
    refine w31_3 ?_
    rw [Bg]
    rw [List.take_length] at h3
    have hne : l ≠ [] := fun e => by rw [e] at h1; simp at h1; omega
    have hty : Ha TT 23 (.sl 4 l) := by
      have := sl_ty (xs := l) uD szDecl (fitOf byDecl (by omega) (by omega)) h2
      cases l with
      | nil => exact absurd rfl hne
      | cons a l => exact this
    exact hQ _ hty h3 _ rfl
  · intro i hi ih l h1 h2 h3
    refine w31_3 ?_
    rw [Bl hi, geE hi]
    refine ⟨inB hi, twin_ok _ g (ed.2 _ (List.getElem_mem hi)) _ fun r hr er => ⟨r, hr, rfl, (fitOf byDecl (by omega) (by simp; omega)).fits byDecl, ?_⟩⟩
    rw [wra (by omega)]
    refine ih _ (by simp [h1]; omega) (fun y hy => ?_) ?_
    · rcases List.mem_append.1 hy with hy | hy
      · exact h2 y hy
      · simp only [List.mem_singleton] at hy; subst hy; exact hr
    · rw [List.map_append, h3, List.append_assoc, List.take_succ, List.getElem?_eq_getElem hi, List.map_append]
      simp [er]
def findCn (s : Str) : List Cn → Int → Option Int
  | [], _ => none
  | c :: l, i => bif c.s == s then some i else findCn s l (i + 1)
def findDc (s : Str) : List Dc → Int → Int × Int × Bool
  | [], _ => (0, 0, false)
  | d :: l, i => match findCn s d.cs 0 with
    | some k => (i, k, true)
    | none => findDc s l (i + 1)
def out3 (r : Int × Int × Bool) : Out := .val (.tuple [.d (.int .i64 r.1), .d (.int .i64 r.2.1), .d (.bool r.2.2)])
theorem find_ok (x : Dat) (s : Str) (g : Glob) (hx : Ha TT 23 x) (hs : s.length ≤ 2 ^ 40) (Qf : OGP) (hQ : Qf (out3 (findDc s ((elO x).map abD) 0)) g) : EvF TT 34 [x, .str s] g Qf := by
  have ed := hx.els uD
  have edl := ed.1.1
  refine w34 hx hs ?_
  refine lU (len := (elO x).length) (fun i => Qf (out3 (findDc s (((elO x).drop i).map abD) (i : Int))) g → L34_2 s x ((elO x).length : Int) (i : Int) g Qf) ?_ ?_ 0 (Nat.zero_le _) hQ
  · intro hQ
    refine w34_2 ?_
    rw [Bg]
    rw [List.drop_length] at hQ
    exact hQ
  · intro i hi ih hQ
    refine w34_2 ?_
    rw [Bl hi, geE hi]
    rw [dm hi, findDc, absDc_cs] at hQ
    obtain ⟨s2, a2, b2, p2, e2, _, ha2, hb2⟩ := det (ed.2 _ (List.getElem_mem hi))
    rw [e2] at hQ ⊢
    have f2 : fld (Dat.agg [.str s2, a2, b2, .int .i64 p2]) 2 = b2 := rfl
    rw [f2] at hQ ⊢
    have eb := hb2.els uC
    have ebl := eb.1.1
    refine ⟨inB hi, ?_⟩
    refine lU (len := (elO b2).length) (fun j => Qf (match findCn s (((elO b2).drop j).map aC) (j : Int) with | some k => out3 ((i : Int), k, true) | none => out3 (findDc s (((elO x).drop (i + 1)).map abD) ((i : Int) + 1))) g → L34_5 s (i : Int) x ((elO x).length : Int) (i : Int) b2 ((elO b2).length : Int) (j : Int) g Qf) ?_ ?_ 0 (Nat.zero_le _) ?_
    · intro hQ
      refine w34_5 ?_
      rw [Bg, wra (by omega)]
      rw [List.drop_length] at hQ
      exact ih hQ
    · intro j hj ihj hQ
      refine w34_5 ?_
      rw [Bl hj, geE hj]
      rw [dm hj, findCn] at hQ
      refine ⟨inB hj, ?_⟩
      show Br ((aC (elO b2)[j]).s == s) _ _
      cases hc : ((aC (elO b2)[j]).s == s) with
      | true => rw [hc] at hQ; exact hQ
      | false =>
        rw [hc] at hQ
        rw [Bf, wra (by omega)]
        exact ihj hQ
    · rw [List.drop_zero]
      cases hf : findCn s ((elO b2).map aC) 0 with
      | none =>
        rw [hf] at hQ
        exact hQ
      | some k =>
        rw [hf] at hQ
        exact hQ
end Go.Proofs.YtgmapdcdmomioaaGreatDoor.Pa
