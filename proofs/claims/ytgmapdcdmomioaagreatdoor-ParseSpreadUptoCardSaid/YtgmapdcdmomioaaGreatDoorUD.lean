/- What functions of the program do, printed by wip/tools/sx/sx.py. A token's text is cut to that token. Tokens each on a line: the same tokens. The document's text of a token. Proved: a text whose tokens stand each on a line is read as the text (the law ParseSpread, in plain words). -/
import Derived.Test.YtgmapdcdmomioaaGreatDoorUA
set_option linter.all false
set_option autoImplicit false
set_option maxRecDepth 100000
namespace Go.Proofs.YtgmapdcdmomioaaGreatDoor.Pa
open Go Go.Proofs.YtgmapdcdmomioaaGreatDoor.Am
def L5_11 (x6 : Dat) (s9 : List UInt8) (n10 : Int) (y3 : Dat) (g : Glob) (Qf : Out → Glob → Prop) : Prop := CutP TT Tryz.f5 [1, 1, 1, 1, 1, 1, 1, 0, 1, 0] Qf (mkC TT 5 Tryz.f5 1 [(3, .loc 3 0 0), (6, .v 37 (x6)), (9, .v 9 (.str s9)), (10, .v 3 (.int .i64 n10))] [(3, .whole 29 y3)] g)
def lo5 : List CutI := [⟨11, [(3, .keep), (6, .keep), (9, .keep), (10, .keep)], [(3, .whole 29)]⟩]
theorem w5 {s0 : List UInt8} {g : Glob} {Qf : Out → Glob → Prop} (h0 : s0.length ≤ 2 ^ 40)
    (h : Br (decide (1500 < (↑s0.length : Int))) (EvF TT 15 [] g fun out g' => Outc (fun x => Qf (.panic x) g') (fun v => ∃ b, v = .d (.bool b) ∧ Qf (.val (.d (.bool b))) g') out) (EvF TT 16 [.str s0] g fun out g' => Outc (fun x => Qf (.panic x) g') (fun v => ∃ x, HasTy TT 29 x ∧ ∃ n n_1, RetT v [x, .int .i64 n, .int .i64 n_1] ∧ Br (n_1 != 0) (EvF TT 18 [x, .agg [.nil, .int .i64 0, .str [], .str [], .int .i64 0, .nil, .nil, .int .i64 0], .bool true] g' fun out g' => Outc (fun x => Qf (.panic x) g') (fun v => ∃ b, v = .d (.bool b) ∧ Br b (EvF TT 15 [] g' fun out g' => Outc (fun x => Qf (.panic x) g') (fun v => ∃ b, v = .d (.bool b) ∧ Qf (.val (.d (.bool b))) g') out) (Qf (.val (.d (.bool false))) g')) out) (EvF TT 19 [.str s0] g' fun out g' => Outc (fun x => Qf (.panic x) g') (fun v => ∃ x_1, HasTy TT 37 x_1 ∧ ∃ n n_2, RetT v [x_1, .int .i64 n, .int .i64 n_2] ∧ Br (n_2 != 0) (Qf (.val (.d (.bool false))) g') (L5_11 x_1 [] 0 x g' Qf)) out)) out)) :
    EvF TT 5 [.str s0] g Qf :=
  sx_fun (rk := rk) (fn := Tryz.f5) (loops := lo5) (joins := []) (n := 100000) (args := [(9, .str s0)]) rfl rfl rfl rfl ⟨tyStr rfl h0, trivial⟩ (by kernel_rfl) h
theorem w5_11 {x6 : Dat} {s9 : List UInt8} {n10 : Int} {y3 : Dat} {g : Glob} {Qf : Out → Glob → Prop} 
    (h : Br (decide (n10 < (↑(elsOf x6).length : Int))) (InB n10 (elsOf x6).length ∧ EvF TT 20 [.sl 4 [getE (elsOf x6) n10]] g fun out g' => Outc (fun x => Qf (.panic x) g') (fun v => ∃ s, s.length.le 1099511627776 ∧ ∃ n, RetT v [.str s, .int .i64 n] ∧ (s.length + 4).le 1099511627776 ∧ (s9.length + (s ++ [32, 35, 120, 10]).length).le 1099511627776 ∧ L5_11 x6 (s9 ++ (s ++ [32, 35, 120, 10])) (IntKind.i64.wrap (n10 + 1)) y3 g' Qf) out) (Br (decide (8192 < (↑s9.length : Int))) (EvF TT 15 [] g fun out g' => Outc (fun x => Qf (.panic x) g') (fun v => ∃ b, v = .d (.bool b) ∧ Qf (.val (.d (.bool b))) g') out) (EvF TT 16 [.str s9] g fun out g' => Outc (fun x => Qf (.panic x) g') (fun v => ∃ x, HasTy TT 29 x ∧ ∃ n n_1, RetT v [x, .int .i64 n, .int .i64 n_1] ∧ Br (n_1 == 0) (EvF TT 18 [y3, x, .bool false] g' fun out g' => Outc (fun x => Qf (.panic x) g') (fun v => ∃ b, v = .d (.bool b) ∧ Br b (EvF TT 15 [] g' fun out g' => Outc (fun x => Qf (.panic x) g') (fun v => ∃ b, v = .d (.bool b) ∧ Qf (.val (.d (.bool b))) g') out) (Qf (.val (.d (.bool false))) g')) out) (Qf (.val (.d (.bool false))) g')) out))) :
    L5_11 x6 s9 n10 y3 g Qf := sx_cut (rk := rk) (loops := lo5) (joins := []) (n := 100000) (by kernel_rfl) h
def L20_5 (x0 : Dat) (l4 : List Dat) (n5 : Int) (g : Glob) (Qf : Out → Glob → Prop) : Prop := CutP TT Tryz.f20 [1, 1, 1, 0, 1, 0] Qf (mkC TT 20 Tryz.f20 1 [(0, .v 37 (x0)), (4, .acc [(32, 0), (44, 0), (54, 0), (59, 0), (65, 0)] 83 1 l4), (5, .v 3 (.int .i64 n5))] [] g)
def L20_10 (x0 : Dat) (l4 : List Dat) (n6 : Int) (g : Glob) (Qf : Out → Glob → Prop) : Prop := CutP TT Tryz.f20 [1, 1, 1, 1, 0, 1, 0] Qf (mkC TT 20 Tryz.f20 1 [(0, .v 37 (x0)), (4, .acc [(32, 0), (44, 0), (54, 0), (59, 0), (65, 0)] 83 1 l4), (6, .v 3 (.int .i64 n6))] [] g)
def lo20 : List CutI := [⟨5, [(0, .keep), (4, .acc [32, 44, 54, 59, 65]), (5, .keep)], []⟩, ⟨10, [(0, .keep), (4, .acc [32, 44, 54, 59, 65]), (6, .keep)], []⟩]
theorem w20 {x0 : Dat} {g : Glob} {Qf : Out → Glob → Prop} (h0 : HasTy TT 37 x0)
    (h : Br (decide (4096 < (↑(elsOf x0).length : Int))) (Qf (.val (.tuple [.d (.str []), .d (.int .i64 3)])) g) (L20_5 x0 [] 0 g Qf)) :
    EvF TT 20 [x0] g Qf :=
  sx_fun (rk := rk) (fn := Tryz.f20) (loops := lo20) (joins := []) (n := 100000) (args := [(37, x0)]) rfl rfl rfl rfl ⟨h0, trivial⟩ (by kernel_rfl) h
theorem w20_5 {x0 : Dat} {l4 : List Dat} {n5 : Int} {g : Glob} {Qf : Out → Glob → Prop} 
    (h : Br (decide (n5 < (↑(elsOf x0).length : Int))) (InB n5 (elsOf x0).length ∧ EvF TT 56 [getE (elsOf x0) n5] g fun out g' => Outc (fun x => Qf (.panic x) g') (fun v => ∃ b, v = .d (.bool b) ∧ Br (!b) (Qf (.val (.tuple [.d (.str []), .d (.int .i64 1)])) g') (L20_5 x0 l4 (IntKind.i64.wrap (n5 + 1)) g' Qf)) out) (L20_10 x0 l4 0 g Qf)) :
    L20_5 x0 l4 n5 g Qf := sx_cut (rk := rk) (loops := lo20) (joins := []) (n := 100000) (by kernel_rfl) h
theorem w20_10 {x0 : Dat} {l4 : List Dat} {n6 : Int} {g : Glob} {Qf : Out → Glob → Prop} 
    (h : Br (decide (n6 < (↑(elsOf x0).length : Int))) (Br (decide (0 < n6)) (Fits (l4.length + 1) 1 ∧ InB n6 (elsOf x0).length ∧ Br (intOf (fld (getE (elsOf x0) n6) 0) == 4) (InB n6 (elsOf x0).length ∧ EvF TT 57 [.int .i64 (intOf (fld (getE (elsOf x0) n6) 2))] g fun out g' => Outc (fun x => Qf (.panic x) g') (fun v => ∃ s, s.length.le 1099511627776 ∧ v = .d (.str s) ∧ Fits ((l4 ++ [Dat.int .u8 32]).length + (bytesUp s).length) 1 ∧ L20_10 x0 (l4 ++ [Dat.int .u8 32] ++ bytesUp s) (IntKind.i64.wrap (n6 + 1)) g' Qf) out) (Br (intOf (fld (getE (elsOf x0) n6) 0) == 3) (Fits ((l4 ++ [Dat.int .u8 32]).length + 1) 1 ∧ InB n6 (elsOf x0).length ∧ Fits ((l4 ++ [Dat.int .u8 32] ++ [Dat.int .u8 39]).length + (bytesUp (strOf (fld (getE (elsOf x0) n6) 1))).length) 1 ∧ L20_10 x0 (l4 ++ [Dat.int .u8 32] ++ [Dat.int .u8 39] ++ bytesUp (strOf (fld (getE (elsOf x0) n6) 1))) (IntKind.i64.wrap (n6 + 1)) g Qf) (InB n6 (elsOf x0).length ∧ Fits ((l4 ++ [Dat.int .u8 32]).length + (bytesUp (strOf (fld (getE (elsOf x0) n6) 1))).length) 1 ∧ L20_10 x0 (l4 ++ [Dat.int .u8 32] ++ bytesUp (strOf (fld (getE (elsOf x0) n6) 1))) (IntKind.i64.wrap (n6 + 1)) g Qf))) (InB n6 (elsOf x0).length ∧ Br (intOf (fld (getE (elsOf x0) n6) 0) == 4) (InB n6 (elsOf x0).length ∧ EvF TT 57 [.int .i64 (intOf (fld (getE (elsOf x0) n6) 2))] g fun out g' => Outc (fun x => Qf (.panic x) g') (fun v => ∃ s, s.length.le 1099511627776 ∧ v = .d (.str s) ∧ Fits (l4.length + (bytesUp s).length) 1 ∧ L20_10 x0 (l4 ++ bytesUp s) (IntKind.i64.wrap (n6 + 1)) g' Qf) out) (Br (intOf (fld (getE (elsOf x0) n6) 0) == 3) (Fits (l4.length + 1) 1 ∧ InB n6 (elsOf x0).length ∧ Fits ((l4 ++ [Dat.int .u8 39]).length + (bytesUp (strOf (fld (getE (elsOf x0) n6) 1))).length) 1 ∧ L20_10 x0 (l4 ++ [Dat.int .u8 39] ++ bytesUp (strOf (fld (getE (elsOf x0) n6) 1))) (IntKind.i64.wrap (n6 + 1)) g Qf) (InB n6 (elsOf x0).length ∧ Fits (l4.length + (bytesUp (strOf (fld (getE (elsOf x0) n6) 1))).length) 1 ∧ L20_10 x0 (l4 ++ bytesUp (strOf (fld (getE (elsOf x0) n6) 1))) (IntKind.i64.wrap (n6 + 1)) g Qf)))) (Br (decide (8192 < (↑l4.length : Int))) (Qf (.val (.tuple [.d (.str []), .d (.int .i64 2)])) g) (Qf (.val (.tuple [.d (.str (bytesD l4)), .d (.int .i64 0)])) g))) :
    L20_10 x0 l4 n6 g Qf := sx_cut (rk := rk) (loops := lo20) (joins := []) (n := 100000) (by kernel_rfl) h
def lo56 : List CutI := []
theorem w56 {x0 : Dat} {g : Glob} {Qf : Out → Glob → Prop} (h0 : HasTy TT 43 x0)
    (h : Br (intOf (fld x0 0) != 4) (Br (intOf (fld x0 2) != 0) (Qf (.val (.d (.bool false))) g) (Br (intOf (fld x0 0) == 1) (EvF TT 72 [.str (strOf (fld x0 1)), .bool true] g fun out g' => Outc (fun x => Qf (.panic x) g') (fun v => ∃ b, v = .d (.bool b) ∧ Br b (EvF TT 120 [.str (strOf (fld x0 1))] g' fun out g' => Outc (fun x => Qf (.panic x) g') (fun v => ∃ b, v = .d (.bool b) ∧ Qf (.val (.d (.bool !b))) g') out) (Qf (.val (.d (.bool false))) g')) out) (Br (intOf (fld x0 0) == 2) (EvF TT 72 [.str (strOf (fld x0 1)), .bool false] g fun out g' => Outc (fun x => Qf (.panic x) g') (fun v => ∃ b, v = .d (.bool b) ∧ Qf (.val (.d (.bool b))) g') out) (Br (intOf (fld x0 0) == 3) (EvF TT 72 [.str (strOf (fld x0 1)), .bool true] g fun out g' => Outc (fun x => Qf (.panic x) g') (fun v => ∃ b, v = .d (.bool b) ∧ Qf (.val (.d (.bool b))) g') out) (Br (intOf (fld x0 0) == 4) (Br (strOf (fld x0 1) == []) (EvF TT 124 [.int .i64 (intOf (fld x0 2))] g fun out g' => Outc (fun x => Qf (.panic x) g') (fun v => ∃ b, v = .d (.bool b) ∧ Qf (.val (.d (.bool b))) g') out) (Qf (.val (.d (.bool false))) g)) (Br (intOf (fld x0 0) == 5) (EvF TT 120 [.str (strOf (fld x0 1))] g fun out g' => Outc (fun x => Qf (.panic x) g') (fun v => ∃ b, v = .d (.bool b) ∧ Qf (.val (.d (.bool b))) g') out) (Br (intOf (fld x0 0) == 6) (EvF TT 123 [.str (strOf (fld x0 1))] g fun out g' => Outc (fun x => Qf (.panic x) g') (fun v => ∃ b, v = .d (.bool b) ∧ Qf (.val (.d (.bool b))) g') out) (Qf (.val (.d (.bool false))) g)))))))) (Br (intOf (fld x0 0) == 1) (EvF TT 72 [.str (strOf (fld x0 1)), .bool true] g fun out g' => Outc (fun x => Qf (.panic x) g') (fun v => ∃ b, v = .d (.bool b) ∧ Br b (EvF TT 120 [.str (strOf (fld x0 1))] g' fun out g' => Outc (fun x => Qf (.panic x) g') (fun v => ∃ b, v = .d (.bool b) ∧ Qf (.val (.d (.bool !b))) g') out) (Qf (.val (.d (.bool false))) g')) out) (Br (intOf (fld x0 0) == 2) (EvF TT 72 [.str (strOf (fld x0 1)), .bool false] g fun out g' => Outc (fun x => Qf (.panic x) g') (fun v => ∃ b, v = .d (.bool b) ∧ Qf (.val (.d (.bool b))) g') out) (Br (intOf (fld x0 0) == 3) (EvF TT 72 [.str (strOf (fld x0 1)), .bool true] g fun out g' => Outc (fun x => Qf (.panic x) g') (fun v => ∃ b, v = .d (.bool b) ∧ Qf (.val (.d (.bool b))) g') out) (Br (intOf (fld x0 0) == 4) (Br (strOf (fld x0 1) == []) (EvF TT 124 [.int .i64 (intOf (fld x0 2))] g fun out g' => Outc (fun x => Qf (.panic x) g') (fun v => ∃ b, v = .d (.bool b) ∧ Qf (.val (.d (.bool b))) g') out) (Qf (.val (.d (.bool false))) g)) (Br (intOf (fld x0 0) == 5) (EvF TT 120 [.str (strOf (fld x0 1))] g fun out g' => Outc (fun x => Qf (.panic x) g') (fun v => ∃ b, v = .d (.bool b) ∧ Qf (.val (.d (.bool b))) g') out) (Br (intOf (fld x0 0) == 6) (EvF TT 123 [.str (strOf (fld x0 1))] g fun out g' => Outc (fun x => Qf (.panic x) g') (fun v => ∃ b, v = .d (.bool b) ∧ Qf (.val (.d (.bool b))) g') out) (Qf (.val (.d (.bool false))) g)))))))) :
    EvF TT 56 [x0] g Qf :=
  sx_fun (rk := rk) (fn := Tryz.f56) (loops := lo56) (joins := []) (n := 100000) (args := [(43, x0)]) rfl rfl rfl rfl ⟨h0, trivial⟩ (by kernel_rfl) h
def lo57 : List CutI := []
theorem w57 {n0 : Int} {g : Glob} {Qf : Out → Glob → Prop} 
    (h : Br (decide (n0 < 0)) (EvF TT 57 [.int .i64 (IntKind.i64.wrap (0 - n0))] g fun out g' => Outc (fun x => Qf (.panic x) g') (fun v => ∃ s, s.length.le 1099511627776 ∧ v = .d (.str s) ∧ (1 + s.length).le 1099511627776 ∧ Qf (.val (.d (.str (126 :: s)))) g') out) (Br (decide (n0 < 10)) (Qf (.val (.d (.str [UInt8.ofNat (intOf (.int .u8 (IntKind.u8.wrap (IntKind.i64.wrap (48 + n0))))).toNat]))) g) (NeZ 10 ∧ EvF TT 57 [.int .i64 (IntKind.i64.wrap (n0.tdiv 10))] g fun out g' => Outc (fun x => NeZ 10 ∧ Qf (.panic x) g') (fun v => ∃ s, s.length.le 1099511627776 ∧ v = .d (.str s) ∧ NeZ 10 ∧ (s.length + [UInt8.ofNat (intOf (.int .u8 (IntKind.u8.wrap (IntKind.i64.wrap (48 + n0.tmod 10))))).toNat].length).le 1099511627776 ∧ Qf (.val (.d (.str (s ++ [UInt8.ofNat (intOf (.int .u8 (IntKind.u8.wrap (IntKind.i64.wrap (48 + n0.tmod 10))))).toNat])))) g') out))) :
    EvF TT 57 [.int .i64 n0] g Qf :=
  sx_fun (rk := rk) (fn := Tryz.f57) (loops := lo57) (joins := []) (n := 100000) (args := [(3, .int .i64 n0)]) rfl rfl rfl rfl ⟨tyInt rfl, trivial⟩ (by kernel_rfl) h
end Go.Proofs.YtgmapdcdmomioaaGreatDoor.Pa
namespace Go.Proofs.YtgmapdcdmomioaaGreatDoor.Pa
open Go Go.Proofs.YtgmapdcdmomioaaGreatDoor.Am
def natS (n : Nat) : Str := if n < 10 then [UInt8.ofNat (48 + n)] else natS (n / 10) ++ [UInt8.ofNat (48 + n % 10)]
termination_by n
decreasing_by exact Nat.div_lt_self (by omega) (by decide)
theorem dig_nat {d : Nat} (h : d < 10) : (UInt8.ofNat (48 + d)).toNat = 48 + d := by
  rw [UInt8.toNat_ofNat']
  omega
theorem valF_app (D : Str) (c : UInt8) (a : Nat) : valF a (D ++ [c]) = valF a D * 10 + (c.toNat - 48) := by
  unfold valF
  rw [List.foldl_append]
  rfl
theorem natS_ok : ∀ (k n : Nat), n < k → Dig (natS n) ∧ natS n ≠ [] ∧ valF 0 (natS n) = n ∧ ((natS n).head? = some 48 → natS n = [48]) ∧ ∀ j, n < 10 ^ (j + 1) → (natS n).length ≤ j + 1
  | 0, _, h => by omega
  | k + 1, n, hk => by
    rw [natS]
    by_cases h : n < 10
    · rw [if_pos h]
      have hd := dig_nat h
      refine ⟨fun c hc => ?_, by simp, ?_, fun e => ?_, fun j _ => by simp⟩
      · rw [List.mem_singleton.1 hc, hd]; omega
      · rw [valF_cons, valF_nil, hd]; omega
      · injection e with e
        rw [e]
    · rw [if_neg h]
      obtain ⟨h1, h2, h3, h4, h5⟩ := natS_ok k (n / 10) (by omega)
      have hd := dig_nat (d := n % 10) (Nat.mod_lt _ (by decide))
      refine ⟨fun c hc => ?_, by simp, ?_, fun e => ?_, fun j hj => ?_⟩
      · rcases List.mem_append.1 hc with hc | hc
        · exact h1 c hc
        · rw [List.mem_singleton.1 hc, hd]; omega
      · rw [valF_app, h3, hd]; omega
      · exfalso
        cases hs : natS (n / 10) with
        | nil => exact h2 hs
        | cons c r =>
          rw [hs] at e h4 h3
          have := h4 e
          injection this with q1 q2
          subst q1 q2
          have h3 : valF 0 [48] = n / 10 := h3
          have : valF 0 [48] = 0 := rfl
          omega
      · rw [List.length_append, List.length_singleton]
        cases j with
        | zero => simp at hj; omega
        | succ j =>
          have := h5 j (by rw [Nat.pow_succ] at hj; omega)
          omega
theorem natS_len (n : Nat) (h : n < 10 ^ 10) : (natS n).length ≤ 10 := (natS_ok (n + 1) n (by omega)).2.2.2.2 9 h
def intS (n : Int) : Str := if n < 0 then 126 :: natS (-n).toNat else natS n.toNat
theorem numR_natS {n : Nat} {neg : Bool} (h : inI (if neg then -(n : Int) else n) = true) : numR neg (natS n) = some (if neg then -(n : Int) else n) := by
  have hn : n < 10 ^ 10 := by
    have := inI_iff.1 h
    cases neg <;> simp at this <;> omega
  obtain ⟨h1, h2, h3, h4, h5⟩ := natS_ok (n + 1) n (by omega)
  have h6 := natS_len n hn
  unfold numR
  rw [if_neg, h3, if_pos h]
  rintro (e | ⟨e1, e2⟩ | e)
  · exact h2 e
  · rw [h4 e2] at e1
    simp at e1
  · omega
theorem intS_ok {n : Int} (h : inI n = true) : ∃ c r, intS n = c :: r ∧ numB c = true ∧ Dig r ∧ numF (c :: r) = ((4, [], n), 0) := by
  have hr := inI_iff.1 h
  unfold intS
  by_cases q : n < 0
  · rw [if_pos q]
    have e : -(((-n).toNat : Nat) : Int) = n := by omega
    have := numR_natS (n := (-n).toNat) (neg := true) (by rw [if_pos rfl, e]; exact h)
    rw [if_pos rfl, e] at this
    have hd := (natS_ok _ (-n).toNat (Nat.lt_succ_self _)).1
    refine ⟨126, _, rfl, rfl, hd, ?_⟩
    unfold numF
    rw [numTok_neg hd, this]
  · rw [if_neg q]
    have e : ((n.toNat : Nat) : Int) = n := by omega
    have := numR_natS (n := n.toNat) (neg := false) (by rw [if_neg (by decide), e]; exact h)
    rw [if_neg (by decide), e] at this
    obtain ⟨hd, hne, _⟩ := natS_ok _ n.toNat (Nat.lt_succ_self _)
    cases hs : natS n.toNat with
    | nil => exact absurd hs hne
    | cons c r =>
      rw [hs] at hd this
      have hc := hd c List.mem_cons_self
      refine ⟨c, r, rfl, ?_, hd.tail, ?_⟩
      · unfold numB dgB
        simp only [Bool.or_eq_true, Bool.and_eq_true, decide_eq_true_eq]
        right
        omega
      · unfold numF
        rw [numTok_pos hd, this]
def tkS (t : Tk) : Str := if t.1 == 4 then intS t.2.2 else if t.1 == 3 then 39 :: t.2.1 else t.2.1
theorem tw_blank {p : Int → Bool} {w : Str} (hp : p 32 = false) : ∀ r : Str, (∀ c ∈ r, p c.toNat = true) → tw p (r ++ 32 :: w) = r
  | [], _ => by
    have : p ((32 : UInt8).toNat : Int) = false := hp
    simp only [tw, List.nil_append, List.takeWhile_cons, this]
    simp
  | c :: r, h => by
    have ih := tw_blank (w := w) hp r fun d hd => h d (List.mem_cons_of_mem _ hd)
    unfold tw at ih ⊢
    simp only [List.cons_append, List.takeWhile_cons, h c List.mem_cons_self, if_true, ih]
theorem word_inv {low : Bool} {s : Str} (h : wordB low s = true) : ∃ c r, s = c :: r ∧ r.length < 32 ∧ (bif low then smB c.toNat else cpB c.toNat) = true ∧ ∀ d ∈ r, ptB d.toNat = true := by
  cases s with
  | nil => cases h
  | cons c r =>
    simp only [wordB, Bool.and_eq_true, decide_eq_true_eq, List.all_eq_true] at h
    exact ⟨c, r, rfl, h.1, h.2.1, h.2.2⟩
theorem sm_rng {c : UInt8} (h : smB c.toNat = true) : 97 ≤ c.toNat ∧ c.toNat ≤ 122 := by
  unfold smB at h
  rw [Bool.and_eq_true, decide_eq_true_eq, decide_eq_true_eq] at h
  omega
theorem cp_rng {c : UInt8} (h : cpB c.toNat = true) : 65 ≤ c.toNat ∧ c.toNat ≤ 90 := by
  unfold cpB at h
  rw [Bool.and_eq_true, decide_eq_true_eq, decide_eq_true_eq] at h
  omega
theorem nosm {c : UInt8} (h : c.toNat < 97) : smB c.toNat = false := by
  cases q : smB c.toNat with
  | false => rfl
  | true => have := sm_rng q; omega
theorem nocp {c : UInt8} (h : c.toNat < 65 ∨ 90 < c.toNat) : cpB c.toNat = false := by
  cases q : cpB c.toNat with
  | false => rfl
  | true => have := cp_rng q; omega
theorem nobl {c : UInt8} (h : 36 ≤ c.toNat) : blank c = false ∧ c.toNat ≠ 35 := by
  refine ⟨?_, by omega⟩
  unfold blank
  simp only [Bool.or_eq_false_iff, beq_eq_false_iff_ne]
  omega
def Cuts (t : Tk) : Prop := ∃ c r, tkS t = c :: r ∧ blank c = false ∧ c.toNat ≠ 35 ∧ ∀ w : Str, tokF (c :: r ++ 32 :: w) = (t, (c :: r).length, 0)
theorem cuts_low {s : Str} (h : wordB true s = true) (hk : keyB s = false) : Cuts (1, s, 0) := by
  obtain ⟨c, r, rfl, h1, h2, h3⟩ := word_inv h
  have h2 : smB c.toNat = true := h2
  have hb := nobl (c := c) (by have := sm_rng h2; omega)
  refine ⟨c, r, rfl, hb.1, hb.2, fun w => ?_⟩
  have ht := tw_blank (w := w) (p := ptB) (by decide) r h3
  rw [List.cons_append, tokF_eq, if_pos h2, ← tw_len, ht]
  unfold wordF
  rw [if_neg (by rw [List.length_cons]; omega), hk]
  simp [Nat.add_comm]
theorem cuts_up {s : Str} (h : wordB false s = true) : Cuts (2, s, 0) := by
  obtain ⟨c, r, rfl, h1, h2, h3⟩ := word_inv h
  have h2 : cpB c.toNat = true := h2
  have hr := cp_rng h2
  have hb := nobl (c := c) (by omega)
  refine ⟨c, r, rfl, hb.1, hb.2, fun w => ?_⟩
  have ht := tw_blank (w := w) (p := ptB) (by decide) r h3
  rw [List.cons_append, tokF_eq, if_neg (by rw [nosm (by omega)]; decide), if_pos h2, ← tw_len, ht]
  unfold wordF
  rw [if_neg (by rw [List.length_cons]; omega)]
  simp [Nat.add_comm]
theorem cuts_var {s : Str} (h : wordB true s = true) : Cuts (3, s, 0) := by
  obtain ⟨c, r, rfl, h1, h2, h3⟩ := word_inv h
  have h2 : smB c.toNat = true := h2
  refine ⟨39, c :: r, rfl, by decide, by decide, fun w => ?_⟩
  have hp : ptB c.toNat = true := by unfold ptB; rw [h2]; rfl
  have ht := tw_blank (w := w) (p := ptB) (by decide) (c :: r) (fun d hd => by
    rcases List.mem_cons.1 hd with rfl | hd
    · exact hp
    · exact h3 d hd)
  have hq : quoteB 39 (c :: r ++ 32 :: w) = true := by
    unfold quoteB
    rw [← tw_len, ht]
    simp [h2]
  rw [List.cons_append, tokF_eq, if_neg (by decide), if_neg (by decide), if_pos hq, ← tw_len, ht]
  unfold wordF
  rw [if_neg (by rw [List.length_cons]; omega)]
  simp [Nat.add_comm]
theorem cuts_int {n : Int} (h : inI n = true) : Cuts (4, [], n) := by
  obtain ⟨c, r, h1, h2, h3, h4⟩ := intS_ok h
  have hc : c.toNat = 126 ∨ 48 ≤ c.toNat ∧ c.toNat ≤ 57 := by
    unfold numB dgB at h2
    simp only [Bool.or_eq_true, Bool.and_eq_true, decide_eq_true_eq, beq_iff_eq] at h2
    omega
  have hb := nobl (c := c) (by omega)
  refine ⟨c, r, h1, hb.1, hb.2, fun w => ?_⟩
  have ht := tw_blank (w := w) (p := dgB) (by decide) r (fun d hd => by
    have := h3 d hd
    unfold dgB
    rw [Bool.and_eq_true, decide_eq_true_eq, decide_eq_true_eq]
    omega)
  have hs : smB c.toNat = false := by
    rcases hc with e | e
    · rw [e]; decide
    · exact nosm (by omega)
  have hq : ∀ u, quoteB c u = false := fun u => by
    unfold quoteB
    have : ((c.toNat : Int) == 39) = false := by rw [beq_eq_false_iff_ne]; omega
    rw [show (c.toNat == 39) = false by rw [beq_eq_false_iff_ne]; omega]
    rfl
  rw [List.cons_append, tokF_eq, if_neg (by rw [hs]; decide), if_neg (by rw [nocp (by omega)]; decide), if_neg (by rw [hq]; decide), if_pos h2, ← tw_len, ht, h4]
  simp [Nat.add_comm]
theorem cuts_key {s : Str} (h : s ∈ keyL) : Cuts (5, s, 0) := by
  simp only [keyL, List.mem_cons, List.not_mem_nil, or_false] at h
  rcases h with rfl | rfl | rfl | rfl | rfl | rfl | rfl | rfl | rfl | rfl | rfl | rfl <;> exact ⟨_, _, rfl, rfl, by decide, fun w => rfl⟩
theorem cuts_sign {s : Str} (h : s ∈ signL) : Cuts (6, s, 0) := by
  simp only [signL, List.mem_cons, List.not_mem_nil, or_false] at h
  rcases h with rfl | rfl | rfl | rfl | rfl | rfl | rfl | rfl | rfl | rfl | rfl | rfl | rfl | rfl <;> exact ⟨_, _, rfl, rfl, by decide, fun w => rfl⟩
def Kd (k : Int) : Prop := k = 1 ∨ k = 2 ∨ k = 3 ∨ k = 4 ∨ k = 5 ∨ k = 6
theorem cuts_of {t : Pk} (h : GoodTk t) (hk : Kd t.1.1) : Cuts t.1 := by
  obtain ⟨⟨k, s, n⟩, p⟩ := t
  have hk : Kd k := hk
  have h0 := h.n0
  have ht := h.t0
  have h5 := h.key
  have h6 := h.sign
  have h1 := h.low
  have h2 := h.up
  have h3 := h.var
  have h4 := h.int
  dsimp only at h0 ht h1 h2 h3 h4 h5 h6 ⊢
  rcases hk with rfl | rfl | rfl | rfl | rfl | rfl
  · rw [h0 (by decide)]
    have := h1 rfl
    rw [wLow, Bool.and_eq_true] at this
    exact cuts_low this.1 (by simpa using this.2)
  · rw [h0 (by decide)]; exact cuts_up (h2 rfl)
  · rw [h0 (by decide)]; exact cuts_var (h3 rfl)
  · rw [ht rfl]; exact cuts_int (h4 rfl)
  · rw [h0 (by decide)]
    have := h5 rfl
    unfold keyB at this
    rw [List.any_eq_true] at this
    obtain ⟨x, hx, e⟩ := this
    rw [← beq_iff_eq.1 e]
    exact cuts_key hx
  · rw [h0 (by decide)]; exact cuts_sign (h6 rfl)
end Go.Proofs.YtgmapdcdmomioaaGreatDoor.Pa
namespace Go.Proofs.YtgmapdcdmomioaaGreatDoor.Pa
open Go Go.Proofs.YtgmapdcdmomioaaGreatDoor.Am
variable {s u : Str} {a n m : Nat} {l acc : List Pk} {g : Glob} {Qf : Out → Glob → Prop}
theorem tok_kd {c : UInt8} {r : Str} (h : (tokF (c :: r)).2.2 = 0) : Kd (tokF (c :: r)).1.1 := by
  rw [tokF_eq] at h ⊢
  by_cases q1 : smB c.toNat = true
  · rw [if_pos q1] at h ⊢
    dsimp only
    rw [(wordF_ok h).2]
    dsimp only
    split
    · exact .inr (.inr (.inr (.inr (.inl rfl))))
    · exact .inl rfl
  rw [if_neg q1] at h ⊢
  by_cases q2 : cpB c.toNat = true
  · rw [if_pos q2] at h ⊢
    dsimp only
    rw [(wordF_ok h).2]
    exact .inr (.inl rfl)
  rw [if_neg q2] at h ⊢
  by_cases q3 : quoteB c r = true
  · rw [if_pos q3] at h ⊢
    dsimp only
    rw [(wordF_ok h).2]
    exact .inr (.inr (.inl rfl))
  rw [if_neg q3] at h ⊢
  by_cases q4 : numB c = true
  · rw [if_pos q4] at h ⊢
    dsimp only at h ⊢
    unfold numF at h ⊢
    cases hnt : numTok (c :: tw dgB r) with
    | none => rw [hnt] at h; cases h
    | some n => exact .inr (.inr (.inr (.inl rfl)))
  rw [if_neg q4] at h ⊢
  cases hx : signF (c :: r) signL with
  | none => rw [hx] at h; cases h
  | some x => exact .inr (.inr (.inr (.inr (.inr rfl))))
theorem lexA_kd : ∀ (k a : Nat) (u : Str) (acc l : List Pk), u.length < k → (∀ t ∈ acc, Kd t.1.1) → lexA a u acc = .ok l → ∀ t ∈ l, Kd t.1.1
  | 0, _, _, _, _, h, _, _ => by omega
  | k + 1, a, u, acc, l, hk, hg, h => by
    have hsk := skipN_le u
    cases hd : u.drop (skipN u) with
    | nil =>
      rw [lexA_end hd] at h
      cases h
      exact hg
    | cons c r =>
      have hl : (c :: r).length = u.length - skipN u := by rw [← hd]; exact List.length_drop ..
      by_cases he : lexErr (tokF (c :: r)).2.2 acc.length = 0
      · have h0 : (tokF (c :: r)).2.2 = 0 := by
          unfold lexErr at he
          split at he
          · cases he
          · exact he
        obtain ⟨_, m1, m2⟩ := tokF_good (p := 0) (Int.le_refl _) h0
        have hld : ((c :: r).drop (tokF (c :: r)).2.1).length = (c :: r).length - (tokF (c :: r)).2.1 := List.length_drop ..
        rw [lexA_tok hd he] at h
        have hc : (c :: r).length = r.length + 1 := List.length_cons
        refine lexA_kd k _ _ _ _ (by omega) (fun t ht => ?_) h
        rcases List.mem_append.1 ht with ht | ht
        · exact hg t ht
        · rw [List.mem_singleton.1 ht]; exact tok_kd h0
      · rw [lexA_err hd he] at h
        cases h
def tailS : Str := [32, 35, 120, 10]
def spS : List Pk → Str
  | [] => []
  | t :: l => tkS t.1 ++ tailS ++ spS l
theorem spS_app : ∀ (l l' : List Pk), spS (l ++ l') = spS l ++ spS l'
  | [], _ => rfl
  | t :: l, l' => by simp [spS, spS_app l l']
theorem lex_com : lexA a (35 :: 120 :: 10 :: u) acc = lexA (a + 3) u acc := by
  have hs : skipN (35 :: 120 :: 10 :: u) = 3 + skipN u := by simp [skipN, comN, blank]; omega
  have hd : (35 :: 120 :: 10 :: u).drop (skipN (35 :: 120 :: 10 :: u)) = u.drop (skipN u) := by
    rw [hs, show 3 + skipN u = skipN u + 1 + 1 + 1 by omega, List.drop_succ_cons, List.drop_succ_cons, List.drop_succ_cons]
  have e3 : a + (3 + skipN u) = a + 3 + skipN u := by omega
  cases hw : u.drop (skipN u) with
  | nil => rw [lexA_end (hd.trans hw), lexA_end hw]
  | cons c r =>
    by_cases he : lexErr (tokF (c :: r)).2.2 acc.length = 0
    · rw [lexA_tok (hd.trans hw) he, lexA_tok hw he, hs, e3]
    · rw [lexA_err (hd.trans hw) he, lexA_err hw he, hs, e3]
theorem lex_sp : ∀ (l : List Pk) (a : Nat) (acc : List Pk), (∀ t ∈ l, Cuts t.1) → acc.length + l.length ≤ 4096 → ∃ l', RelK (fun _ _ => True) l l' ∧ lexA a (spS l) acc = .ok (acc ++ l')
  | [], a, acc, _, _ => ⟨[], trivial, by rw [List.append_nil]; exact lexA_nil⟩
  | t :: l, a, acc, h, hn => by
    rw [List.length_cons] at hn
    obtain ⟨c, r, h1, h2, h3, h4⟩ := h t List.mem_cons_self
    have hb : ∀ w : Str, skipN (c :: r ++ 32 :: w) = 0 := fun w => by
      rw [List.cons_append, skipN, if_neg (by rw [h2]; decide), if_neg (by simpa using h3)]
    have e : spS (t :: l) = c :: r ++ 32 :: 35 :: 120 :: 10 :: spS l := by
      simp [spS, tailS, h1]
    have hs : lexA a (c :: r ++ 32 :: 35 :: 120 :: 10 :: spS l) acc = lexA (a + (c :: r).length) ((c :: r ++ 32 :: 35 :: 120 :: 10 :: spS l).drop (c :: r).length) (acc ++ [(t.1, (a : Int))]) := lex_tok (hb _) (h4 _) (by omega)
    obtain ⟨l', i1, i2⟩ := lex_sp l (a + (c :: r).length + 1 + 3) (acc ++ [(t.1, (a : Int))]) (fun x hx => h x (List.mem_cons_of_mem _ hx)) (by simp; omega)
    refine ⟨(t.1, (a : Int)) :: l', ⟨rfl, trivial, i1⟩, ?_⟩
    rw [e, hs, List.drop_left' rfl, lex_blank, lex_com, i2]
    simp
theorem natS_le : ∀ (k n : Nat), n < k → (natS n).length ≤ n + 1
  | 0, _, h => by omega
  | k + 1, n, h => by
    rw [natS]
    split
    · simp
    · have := natS_le k (n / 10) (by omega)
      rw [List.length_append, List.length_singleton]
      omega
theorem u8_dig {d : Nat} (h : d < 10) : UInt8.ofNat (intOf (.int .u8 (IntKind.u8.wrap (IntKind.i64.wrap (48 + (d : Int)))))).toNat = UInt8.ofNat (48 + d) := by
  have : ∀ d : Fin 10, UInt8.ofNat (intOf (.int .u8 (IntKind.u8.wrap (IntKind.i64.wrap (48 + (d.val : Int)))))).toNat = UInt8.ofNat (48 + d.val) := by decide
  exact this ⟨d, h⟩
theorem intN_ok : ∀ (k n : Nat), n < k → n < 2 ^ 31 → ∀ {g : Glob} {Qf : Out → Glob → Prop}, Qf (.val (.d (.str (natS n)))) g → EvF TT 57 [.int .i64 n] g Qf
  | 0, _, h, _, _, _, _ => by omega
  | k + 1, n, hk, hn, g, Qf, hQ => by
    refine w57 (Br_no (by simp) (Br_iff.2 ⟨fun q => ?_, fun q => ?_⟩))
    · have hlt : n < 10 := by have := of_decide_eq_true q; omega
      rw [u8_dig hlt]
      rw [natS, if_pos hlt] at hQ
      exact hQ
    · have hge : ¬n < 10 := by have := of_decide_eq_false q; omega
      have e1 : (n : Int).tdiv 10 = ((n / 10 : Nat) : Int) := by simp [Int.tdiv_eq_ediv_of_nonneg]
      have e2 : (n : Int).tmod 10 = ((n % 10 : Nat) : Int) := by simp [Int.tmod_eq_emod_of_nonneg]
      have e3 : IntKind.i64.wrap ((n / 10 : Nat) : Int) = ((n / 10 : Nat) : Int) := wrap_id (by omega) (by omega)
      have hz : NeZ 10 := (by decide : (10 : Int) ≠ 0)
      refine ⟨hz, ?_⟩
      rw [e1, e3, e2]
      refine intN_ok k (n / 10) (by omega) (by omega) ⟨natS (n / 10), ?_, rfl, hz, ?_, ?_⟩
      · have := natS_le _ (n / 10) (Nat.lt_succ_self _)
        exact Nat.le_trans this (by omega)
      · have := natS_le _ (n / 10) (Nat.lt_succ_self _)
        refine Nat.le_trans (m := n / 10 + 1 + 1) ?_ (by omega)
        simpa using this
      · rw [u8_dig (Nat.mod_lt _ (by decide))]
        rw [natS, if_neg hge] at hQ
        exact hQ
theorem r11Int_ok {n : Int} (h : inI n = true) (hQ : Qf (.val (.d (.str (intS n)))) g) : EvF TT 57 [.int .i64 n] g Qf := by
  have hr := inI_iff.1 h
  unfold intS at hQ
  by_cases q : n < 0
  · rw [if_pos q] at hQ
    refine w57 (Br_of (decide_eq_true q) ?_)
    have e : IntKind.i64.wrap (0 - n) = (((-n).toNat : Nat) : Int) := by rw [wrap_id (by omega) (by omega)]; omega
    rw [e]
    have := natS_le _ (-n).toNat (Nat.lt_succ_self _)
    exact intN_ok _ _ (Nat.lt_succ_self _) (by omega) ⟨natS (-n).toNat, Nat.le_trans this (by omega), rfl, Nat.le_trans (m := (-n).toNat + 2) (by omega) (by omega), hQ⟩
  · rw [if_neg q] at hQ
    have e : n = ((n.toNat : Nat) : Int) := by omega
    rw [e]
    exact intN_ok _ _ (Nat.lt_succ_self _) (by omega) hQ
theorem r11Good_ok {t : Pk} (h : GoodTk t) (hk : Kd t.1.1) (hQ : Qf (.val (.d (.bool true))) g) : EvF TT 56 [pkD t] g Qf := by
  obtain ⟨⟨k, s, n⟩, p⟩ := t
  have hk : Kd k := hk
  have h0 := h.n0
  have ht := h.t0
  have h5 := h.key
  have h6 := h.sign
  have h1 := h.low
  have h2 := h.up
  have h3 := h.var
  have h4 := h.int
  have hs := h.str
  dsimp only at h0 ht h1 h2 h3 h4 h5 h6 hs
  refine w56 (ty_tok hs) ?_
  show Br (k != 4) (Br (n != 0) _ _) _
  rcases hk with rfl | rfl | rfl | rfl | rfl | rfl
  · refine Br_of rfl (Br_no (by rw [h0 (by decide)]; rfl) (Br_of rfl (r11Word_ok true hs ⟨_, rfl, ?_⟩)))
    have := h1 rfl
    rw [wLow, Bool.and_eq_true] at this
    refine Br_of this.1 (r11Key_ok hs ⟨_, rfl, ?_⟩)
    rw [show (!keyB (strOf (fld (pkD ((1, s, n), p)) 1))) = true from this.2]
    exact hQ
  · refine Br_of rfl (Br_no (by rw [h0 (by decide)]; rfl) (Br_no rfl (Br_of rfl (r11Word_ok false hs ⟨_, rfl, ?_⟩))))
    exact qcast hQ (h2 rfl).symm
  · refine Br_of rfl (Br_no (by rw [h0 (by decide)]; rfl) (Br_no rfl (Br_no rfl (Br_of rfl (r11Word_ok true hs ⟨_, rfl, ?_⟩)))))
    exact qcast hQ (h3 rfl).symm
  · refine Br_no rfl (Br_no rfl (Br_no rfl (Br_no rfl (Br_of rfl (Br_of (by rw [ht rfl]; rfl) (r10In_ok ?_))))))
    exact ⟨_, rfl, qcast hQ (h4 rfl).symm⟩
  · refine Br_of rfl (Br_no (by rw [h0 (by decide)]; rfl) (Br_no rfl (Br_no rfl (Br_no rfl (Br_no rfl (Br_of rfl (r11Key_ok hs ⟨_, rfl, ?_⟩)))))))
    exact qcast hQ (h5 rfl).symm
  · refine Br_of rfl (Br_no (by rw [h0 (by decide)]; rfl) (Br_no rfl (Br_no rfl (Br_no rfl (Br_no rfl (Br_no rfl (Br_of rfl (r11Sign_ok hs ⟨_, rfl, ?_⟩))))))))
    refine qcast hQ ?_
    have := h6 rfl
    exact (show (signL.any fun k => k == s) = true from List.any_eq_true.2 ⟨s, this, beq_iff_eq.2 rfl⟩).symm
theorem bytes_up (s : Str) : bytesD (bytesUp s) = s := by
  induction s with
  | nil => rfl
  | cons c r ih =>
    show UInt8.ofNat (intOf (.int .u8 (c.toNat : Int))).toNat :: bytesD (bytesUp r) = _
    rw [ih]
    congr 1
    show UInt8.ofNat ((c.toNat : Int)).toNat = c
    rw [Int.toNat_natCast]
    simp
theorem fits_of {n : Nat} (h : n ≤ 2 ^ 40) : Fits n 1 := ⟨h, by omega⟩
theorem tkS_len {t : Pk} (h : GoodTk t) (hk : Kd t.1.1) : (tkS t.1).length ≤ 33 := by
  obtain ⟨⟨k, s, n⟩, p⟩ := t
  have hk : Kd k := hk
  have h5 := h.key
  have h6 := h.sign
  have h1 := h.low
  have h2 := h.up
  have h3 := h.var
  have h4 := h.int
  dsimp only at h1 h2 h3 h4 h5 h6 ⊢
  rcases hk with rfl | rfl | rfl | rfl | rfl | rfl
  · have := wLow_len (h1 rfl)
    show s.length ≤ 33
    omega
  · have := wordB_len (h2 rfl)
    show s.length ≤ 33
    omega
  · have := wordB_len (h3 rfl)
    show (39 :: s).length ≤ 33
    rw [List.length_cons]
    omega
  · have hr := inI_iff.1 (h4 rfl)
    show (intS n).length ≤ 33
    unfold intS
    split
    · have := natS_len (-n).toNat (by omega)
      rw [List.length_cons]
      omega
    · have := natS_len n.toNat (by omega)
      omega
  · have := h5 rfl
    unfold keyB at this
    rw [List.any_eq_true] at this
    obtain ⟨x, hx, e⟩ := this
    rw [← beq_iff_eq.1 e]
    have hh : ∀ x ∈ keyL, x.length ≤ 33 := by decide
    exact hh x hx
  · have hh : ∀ x ∈ signL, x.length ≤ 33 := by decide
    exact hh s (h6 rfl)
theorem r11Text_ok {t : Pk} (h : GoodTk t) (hk : Kd t.1.1) (hQ : ∀ us, RetL us [.str (tkS t.1), .int .i64 0] → Qf (.val (.tuple us)) g) : EvF TT 20 [.sl 4 [pkD t]] g Qf := by
  have hlen := tkS_len h hk
  have hty : HasTy TT 37 (.sl 4 [pkD t]) := toks_ty (l := [t]) (fun x hx => by rw [List.mem_singleton.1 hx]; exact h) (by simp)
  refine w20 hty (Br_no rfl (w20_5 (Br_of rfl ⟨inB (i := 0) (by simp [elsOf]), r11Good_ok h hk ⟨_, rfl, Br_no rfl ?_⟩⟩)))
  refine w20_5 (Br_no rfl ?_)
  have fin : ∀ L : List Dat, bytesD L = tkS t.1 → L.length = (tkS t.1).length → L20_10 (.sl 4 [pkD t]) L 1 g Qf := fun L e1 e2 => by
    refine w20_10 (Br_no rfl (Br_no (by rw [e2]; simp; omega) ?_))
    rw [e1]
    exact hQ _ ⟨rfl, rfl, trivial⟩
  refine w20_10 (Br_of rfl (Br_no rfl ⟨inB (i := 0) (by simp [elsOf]), Br_iff.2 ⟨fun q => ⟨inB (i := 0) (by simp [elsOf]), ?_⟩, fun q => Br_iff.2 ⟨fun q2 => ?_, fun q2 => ?_⟩⟩⟩))
  · have q : (t.1.1 == 4) = true := q
    have hi := h.int (beq_iff_eq.1 q)
    have e : tkS t.1 = intS t.1.2.2 := by unfold tkS; rw [if_pos q]
    rw [e] at hlen
    refine r11Int_ok hi ⟨intS t.1.2.2, Nat.le_trans hlen (by decide), rfl, fits_of (by simp [bytesUp]; omega), fin _ ?_ ?_⟩
    · rw [e]; exact bytes_up _
    · rw [e]; simp [bytesUp]
  · have q : (t.1.1 == 4) = false := q
    have q2 : (t.1.1 == 3) = true := q2
    have e : tkS t.1 = 39 :: t.1.2.1 := by unfold tkS; rw [if_neg (by rw [q]; decide), if_pos q2]
    have es : strOf (fld (getE (elsOf (.sl 4 [pkD t])) 0) 1) = t.1.2.1 := rfl
    rw [e, List.length_cons] at hlen
    rw [es]
    refine ⟨fits_of (by simp), inB (i := 0) (by simp [elsOf]), fits_of (by simp [bytesUp]; omega), fin _ ?_ ?_⟩
    · rw [e]
      show (39 : UInt8) :: bytesD (bytesUp t.1.2.1) = _
      rw [bytes_up]
    · rw [e]; simp [bytesUp]
  · have q : (t.1.1 == 4) = false := q
    have q2 : (t.1.1 == 3) = false := q2
    have e : tkS t.1 = t.1.2.1 := by unfold tkS; rw [if_neg (by rw [q]; decide), if_neg (by rw [q2]; decide)]
    have es : strOf (fld (getE (elsOf (.sl 4 [pkD t])) 0) 1) = t.1.2.1 := rfl
    rw [e] at hlen
    rw [es]
    refine ⟨inB (i := 0) (by simp [elsOf]), fits_of (by simp [bytesUp]; omega), fin _ ?_ ?_⟩
    · rw [e]; exact bytes_up _
    · rw [e]; simp [bytesUp]
end Go.Proofs.YtgmapdcdmomioaaGreatDoor.Pa
namespace Go.Proofs.YtgmapdcdmomioaaGreatDoor.Pa
open Go Go.Proofs.YtgmapdcdmomioaaGreatDoor.Am
variable {P : Int → Int → Prop} {en en' : Int} {r r0 r1 r' X : List Pk} {s u : Str} {a n m : Nat} {g : Glob} {Qf : Out → Glob → Prop}
def dcsR : List Dc → List Dc → Prop
  | [], [] => True
  | c :: l, d :: m => (d.s = c.s ∧ d.ps = c.ps ∧ d.cs = c.cs) ∧ dcsR l m
  | _, _ => False
theorem dcsR_app : ∀ {l l' : List Dc} {c d : Dc}, dcsR l l' → d.s = c.s ∧ d.ps = c.ps ∧ d.cs = c.cs → dcsR (l ++ [c]) (l' ++ [d])
  | [], [], _, _, _, h => ⟨h, trivial⟩
  | _ :: _, _ :: _, _, _, h, h' => ⟨h.1, dcsR_app h.2 h'⟩
theorem rr_params (hX : Stop X) : ∀ {r r0 : List Pk}, RelK P r r0 → (gParams (r0 ++ X)).1 = (gParams r).1 ∧ ∃ r0', (gParams (r0 ++ X)).2 = r0' ++ X ∧ RelK P (gParams r).2 r0'
  | [], [], _ => by
    match X, hX with
    | [], _ => exact ⟨rfl, [], rfl, trivial⟩
    | t :: X, hX =>
      have : (t.1.1 == 3) = false := by rcases hX with ⟨e, _⟩ | ⟨e, _⟩ <;> rw [e] <;> rfl
      have e : gParams ([] ++ t :: X) = ([], t :: X) := by
        show gParams (t :: X) = _
        rw [gParams, this]
        rfl
      rw [e]
      exact ⟨rfl, [], rfl, trivial⟩
  | t :: r, u :: r0, h => by
    obtain ⟨h1, h2, h3⟩ := h
    obtain ⟨i1, r2, i2, i3⟩ := rr_params hX h3
    rw [List.cons_append]
    unfold gParams
    rw [h1]
    split
    · exact ⟨by rw [i1], r2, i2, i3⟩
    · exact ⟨rfl, u :: r0, rfl, h1, h2, h3⟩
theorem rr_fields (hX : Stop X) : ∀ (n : Nat) {m : Nat} {l : List Ty} {r r0 : List Pk}, n ≤ m → RelK P r r0 → RR P X (fun a b => b = a) (gFields en n l r) (gFields en' m l (r0 ++ X))
  | 0, _, _, _, _, _, _ => trivial
  | n + 1, m, l, r, r0, hm, h => by
    obtain ⟨m, rfl⟩ : ∃ k, m = k + 1 := ⟨m - 1, by omega⟩
    have hm : n ≤ m := by omega
    rw [gFields, gFields, ty_eq hX h]
    split
    · exact ((rr_ty hX n).2.2.2 _ _ _ hm h).bind fun _ _ _ _ e h => by subst e; exact rr_fields hX n hm h
    · exact .ok rfl h
theorem rr_cons (hX : Stop X) : ∀ (n : Nat) {m : Nat} {l : List Cn} {r r0 : List Pk}, n ≤ m → RelK P r r0 → RR P X (fun a b => b = a) (gCons en n l r) (gCons en' m l (r0 ++ X))
  | 0, _, _, _, _, _, _ => trivial
  | n + 1, m, l, r, r0, hm, h => by
    obtain ⟨m, rfl⟩ : ∃ k, m = k + 1 := ⟨m - 1, by omega⟩
    have hm : n ≤ m := by omega
    rw [gCons, gCons]
    refine (rr_word (by decide) h).bind fun _ _ _ _ e h => (rr_fields hX n hm h).bind fun _ _ r r0 e2 h => ?_
    subst e e2
    rw [is_eq hX h (by decide)]
    split
    · rename_i q
      have d : Hd P X en en' r r0 := hd_ne h (ne_is (by decide) q)
      rw [d.tl]
      exact rr_cons hX n hm d.rel
    · exact .ok rfl h
theorem rr_decl (hX : Stop X) {n m : Nat} (hm : n ≤ m) (h : RelK P r r0) : RR P X (fun c d => d.s = c.s ∧ d.ps = c.ps ∧ d.cs = c.cs) (gDecl en n r) (gDecl en' m (r0 ++ X)) := by
  unfold gDecl
  refine (rr_need (by decide) h).bind fun _ _ _ _ _ h1 => (rr_word (by decide) h1).bind fun _ _ r2 r02 e h2 => ?_
  obtain ⟨i1, r3, i2, i3⟩ := rr_params hX h2
  rw [i1, i2]
  exact (rr_need (by decide) i3).bind fun _ _ _ _ _ h3 => (rr_cons hX n hm h3).bind fun _ _ _ _ e2 h4 => (rr_need (by decide) h4).bind fun _ _ _ _ _ h5 => .ok ⟨e, rfl, e2⟩ h5
theorem rr_prog : ∀ (n : Nat) {m : Nat} {l l' : List Dc} {r r0 : List Pk}, n ≤ m → dcsR l l' → RelK P r r0 → RR P [] (fun v w : Pg => dcsR v.ds w.ds ∧ exW P v.e w.e) (gProg en n l r) (gProg en' m l' (r0 ++ []))
  | 0, _, _, _, _, _, _, _, _ => trivial
  | n + 1, m, l, l', r, r0, hm, hl, h => by
    obtain ⟨m, rfl⟩ : ∃ k, m = k + 1 := ⟨m - 1, by omega⟩
    have hm : n ≤ m := by omega
    have hX : Stop [] := trivial
    rw [gProg, gProg, is_eq hX h (by decide)]
    split
    · exact (rr_decl hX hm h).bind fun _ _ _ _ e h => rr_prog n hm (dcsR_app hl e) h
    · refine ((rr_ex hX n).ex hm h).bind fun _ _ r r0 he h => ?_
      split
      · rename_i q
        have := List.isEmpty_iff.1 q
        subst this
        match r0, h with
        | [], h => exact .ok ⟨hl, he⟩ h
      · trivial
theorem badDc_eq {c d : Dc} (h : d.s = c.s ∧ d.ps = c.ps ∧ d.cs = c.cs) : badDc d = badDc c ∧ dpCns d.cs = dpCns c.cs ∧ eqDc false c d = true := by
  obtain ⟨h1, h2, h3⟩ := h
  refine ⟨by unfold badDc; rw [h2, h3], by rw [h3], ?_⟩
  have := eqDc_refl false c
  unfold eqDc at this ⊢
  rw [h1, h2, h3]
  simpa using this
theorem dcsR_same : ∀ {l l' : List Dc}, dcsR l l' → l'.length = l.length ∧ l'.any badDc = l.any badDc ∧ dpDcs l' = dpDcs l ∧ eqBy (eqDc false) l l' = true
  | [], [], _ => ⟨rfl, rfl, rfl, rfl⟩
  | c :: l, d :: m, h => by
    obtain ⟨i1, i2, i3, i4⟩ := dcsR_same h.2
    obtain ⟨b1, b2, b3⟩ := badDc_eq h.1
    exact ⟨by simp [i1], by simp [b1, i2], by simp [dpDcs, b2, i3], by simp [eqBy, b3, i4]⟩
theorem pg_same {v w : Pg} (h : dcsR v.ds w.ds) (he : exW P v.e w.e) : limF (!flEx w.e) w = limF (!flEx v.e) v ∧ eqPg false v w = true := by
  obtain ⟨h1, h2, h3, h4⟩ := dcsR_same h
  obtain ⟨e1, e2, e3, e4, _⟩ := exW_same he
  constructor
  · simp only [limF, h1, h2, h3, e1, e2, e3]
  · simp only [eqPg, h4, e4, Bool.and_self]
theorem spread_ok {l : List Pk} {v : Pg} (hl : lexAll s = .ok l) (h : parseAll s = .ok v) (hs : (spS l).length ≤ 8192) : ∃ w, parseAll (spS l) = .ok w ∧ eqPg false v w = true := by
  obtain ⟨hg, hn⟩ := lexAll_good hl
  have hsl : s.length ≤ 8192 := by
    cases Nat.lt_or_ge 8192 s.length with
    | inl q => unfold lexAll at hl; rw [if_pos q] at hl; cases hl
    | inr q => exact q
  have hk : ∀ t ∈ l, Kd t.1.1 := lexA_kd _ 0 s [] l (Nat.lt_succ_self _) (fun t ht => by cases ht) (by rw [← lexAll_A hsl]; exact hl)
  obtain ⟨l', hr, hl'⟩ := lex_sp l 0 [] (fun t ht => cuts_of (hg t ht) (hk t ht)) (by simpa using hn)
  have hT : lexAll (spS l) = .ok l' := by
    rw [lexAll_A hs]
    exact hl'
  unfold parseAll at h
  rw [hl] at h
  dsimp only at h
  cases hp : gProg s.length (16 * l.length + 9) [] l with
  | bad p => rw [hp] at h; cases h
  | oof => rw [hp] at h; cases h
  | ok v' r' =>
    rw [hp] at h
    dsimp only at h
    split at h
    · rename_i h0
      cases h
      have := rr_prog (P := fun _ _ => True) (en := s.length) (en' := (spS l).length) (16 * l.length + 9) (Nat.le_refl _) (l := []) (l' := []) trivial hr
      rw [hp, List.append_nil] at this
      obtain ⟨w, r0', k1, ⟨k2, k3⟩, _⟩ := this
      obtain ⟨q1, q2⟩ := pg_same k2 k3
      refine ⟨w, ?_, q2⟩
      rw [parseAll_of hT (v := w) (r' := r0' ++ []) (by rw [relK_len hr]; exact k1), q1, if_pos h0]
    · cases h
theorem spS_len : ∀ {l : List Pk}, (∀ t ∈ l, (tkS t.1).length ≤ 33) → (spS l).length ≤ 37 * l.length
  | [], _ => by simp [spS]
  | t :: l, h => by
    have h1 := h t List.mem_cons_self
    have h2 := spS_len (l := l) fun x hx => h x (List.mem_cons_of_mem _ hx)
    simp only [spS, List.length_append, List.length_cons, tailS, List.length_nil]
    omega
theorem parseSpreadLaw (x : Dat) (g : Glob) (hx : HasTy TT 9 x) (hb : StrB x) (Qf : Out → Glob → Prop) (hQ : ∀ g, Qf (.val (.d (.bool true))) g) : EvF TT 5 [x] g Qf := by
  obtain ⟨s, rfl, hs⟩ := str_ty hx
  refine w5 hs (Br_iff.2 ⟨fun _ => wakes_ok g _ ⟨_, rfl, hQ g⟩, fun q => pParse_ok hs ?_⟩)
  cases hp : parseAll s with
  | err p e =>
    intro g'
    have hne := parseAll_ne hp
    refine ⟨zPg, zPg_ty, _, _, ⟨rfl, rfl, rfl, trivial⟩, Br_of (by simpa [bne] using hne) (refSame_ok true zPg zPg g' zPg_ty zPg_ty _ ⟨_, rfl, ?_⟩)⟩
    rw [eqPg_refl]
    exact Br_of rfl (wakes_ok g' _ ⟨_, rfl, hQ g'⟩)
  | ok v =>
    intro d g' hd ht
    refine ⟨d, ht, _, _, ⟨rfl, rfl, rfl, trivial⟩, Br_no rfl (rlex_ok hs ?_)⟩
    cases hl : lexAll s with
    | err a e =>
      unfold parseAll at hp
      rw [hl] at hp
      cases hp
    | ok l =>
      obtain ⟨hg, hn⟩ := lexAll_good hl
      have hsl : s.length ≤ 8192 := by have := of_decide_eq_false q; omega
      have hk : ∀ t ∈ l, Kd t.1.1 := lexA_kd _ 0 s [] l (Nat.lt_succ_self _) (fun t ht => by cases ht) (by rw [← lexAll_A hsl]; exact hl)
      have h33 : ∀ t ∈ l, (tkS t.1).length ≤ 33 := fun t ht => tkS_len (hg t ht) (hk t ht)
      intro us hus
      refine ⟨_, toks_ty hg hn, _, _, hus, Br_no rfl ?_⟩
      have hel : elsOf (slOf 4 (l.map pkD)) = l.map pkD := by rw [slOf_els]
      have hell : (elsOf (slOf 4 (l.map pkD))).length = l.length := by rw [hel, List.length_map]
      refine loopUp (len := l.length) (fun i => L5_11 (slOf 4 (l.map pkD)) (spS (l.take i)) (i : Int) d g' Qf) ?_ ?_ 0 (Nat.zero_le _)
      · refine w5_11 (Br_no (by rw [hell]; simp) ?_)
        rw [List.take_length]
        refine Br_iff.2 ⟨fun _ => wakes_ok g' _ ⟨_, rfl, hQ g'⟩, fun q3 => ?_⟩
        have hsp : (spS l).length ≤ 8192 := by have := of_decide_eq_false q3; omega
        obtain ⟨w, k1, k2⟩ := spread_ok hl hp hsp
        refine pParse_ok (by omega) ?_
        rw [k1]
        intro d2 g2 hd2 ht2
        refine ⟨d2, ht2, _, _, ⟨rfl, rfl, rfl, trivial⟩, Br_of rfl (refSame_ok false d d2 g2 ht ht2 _ ⟨_, rfl, ?_⟩)⟩
        rw [hd, hd2, k2]
        exact Br_of rfl (wakes_ok g2 _ ⟨_, rfl, hQ g2⟩)
      · intro i hi ih
        have hi' : i < (l.map pkD).length := by rw [List.length_map]; exact hi
        have hm : l[i] ∈ l := List.getElem_mem hi
        refine w5_11 (Br_of (by rw [hell]; simpa using hi) ⟨by rw [hell]; exact inB hi, ?_⟩)
        rw [hel, getE_nat hi', List.getElem_map]
        have e : spS (l.take i) ++ (tkS l[i].1 ++ [32, 35, 120, 10]) = spS (l.take (i + 1)) := by
          rw [List.take_succ_eq_append_getElem hi, spS_app]
          simp [spS, tailS]
        have h1 := h33 _ hm
        have h2 := spS_len (l := l.take i) fun t ht => h33 t (List.mem_of_mem_take ht)
        have h3 : (l.take i).length ≤ 4096 := by rw [List.length_take]; omega
        refine r11Text_ok (hg _ hm) (hk _ hm) fun us hus => ⟨tkS l[i].1, Nat.le_trans h1 (by decide), 0, hus, Nat.le_trans (m := 37) (by omega) (by decide), ?_, ?_⟩
        · refine Nat.le_trans (m := 37 * 4096 + 37) ?_ (by decide)
          simp only [List.length_append, List.length_cons, List.length_nil]
          omega
        · rw [e, wrap_nat (by omega)]
          exact ih
end Go.Proofs.YtgmapdcdmomioaaGreatDoor.Pa
