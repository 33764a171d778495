/- What functions of the program do, printed by wip/tools/sx/sx.py. -/
import Derived.Test.YtgmapdcdmomioaaGreatDoorPwF
set_option linter.all false
set_option linter.all false
set_option autoImplicit false
set_option maxRecDepth 100000
namespace Go.Proofs.YtgmapdcdmomioaaGreatDoor.Pa
open Go Go.Proofs.YtgmapdcdmomioaaGreatDoor.Am
/-! f117 athanor/athanorref11.small -/
def lo117 : List CutI := []
theorem w117 {n0 : Int} {g : Glob} {Qf : Out → Glob → Prop} 
    (h : Br (decide (97 ≤ n0)) (Qf (Out.val (Val.d (Dat.bool (decide (n0 ≤ 122))))) g) (Qf (Out.val (Val.d (Dat.bool false))) g)) :
    EvF TT 117 [.int .u8 n0] g Qf :=
  sx_fun (rk := rk) (fn := Tryz.f117) (loops := lo117) (joins := []) (n := 100000) (args := [(5, .int .u8 n0)]) rfl rfl rfl rfl ⟨tyInt rfl, trivial⟩ (by kernel_rfl) h
/-! f118 athanor/athanorref11.capital -/
def lo118 : List CutI := []
theorem w118 {n0 : Int} {g : Glob} {Qf : Out → Glob → Prop} 
    (h : Br (decide (65 ≤ n0)) (Qf (Out.val (Val.d (Dat.bool (decide (n0 ≤ 90))))) g) (Qf (Out.val (Val.d (Dat.bool false))) g)) :
    EvF TT 118 [.int .u8 n0] g Qf :=
  sx_fun (rk := rk) (fn := Tryz.f118) (loops := lo118) (joins := []) (n := 100000) (args := [(5, .int .u8 n0)]) rfl rfl rfl rfl ⟨tyInt rfl, trivial⟩ (by kernel_rfl) h
/-! f121 athanor/athanorref11.digit -/
def lo121 : List CutI := []
theorem w121 {n0 : Int} {g : Glob} {Qf : Out → Glob → Prop} 
    (h : Br (decide (48 ≤ n0)) (Qf (Out.val (Val.d (Dat.bool (decide (n0 ≤ 57))))) g) (Qf (Out.val (Val.d (Dat.bool false))) g)) :
    EvF TT 121 [.int .u8 n0] g Qf :=
  sx_fun (rk := rk) (fn := Tryz.f121) (loops := lo121) (joins := []) (n := 100000) (args := [(5, .int .u8 n0)]) rfl rfl rfl rfl ⟨tyInt rfl, trivial⟩ (by kernel_rfl) h
/-! f140 athanor/athanorref11.part -/
def lo140 : List CutI := []
theorem w140 {n0 : Int} {g : Glob} {Qf : Out → Glob → Prop} 
    (h : EvF TT 117 [Dat.int IntKind.u8 n0] g fun out g' => Outc (fun x => Qf (Out.panic x) g') (fun v => ∃ b, v = Val.d (Dat.bool b) ∧ Br b (Qf (Out.val (Val.d (Dat.bool true))) g') (EvF TT 118 [Dat.int IntKind.u8 n0] g' fun out g' => Outc (fun x => Qf (Out.panic x) g') (fun v => ∃ b, v = Val.d (Dat.bool b) ∧ Br b (Qf (Out.val (Val.d (Dat.bool true))) g') (EvF TT 121 [Dat.int IntKind.u8 n0] g' fun out g' => Outc (fun x => Qf (Out.panic x) g') (fun v => ∃ b, v = Val.d (Dat.bool b) ∧ Br b (Qf (Out.val (Val.d (Dat.bool true))) g') (Qf (Out.val (Val.d (Dat.bool (n0 == 95)))) g')) out)) out)) out) :
    EvF TT 140 [.int .u8 n0] g Qf :=
  sx_fun (rk := rk) (fn := Tryz.f140) (loops := lo140) (joins := []) (n := 100000) (args := [(5, .int .u8 n0)]) rfl rfl rfl rfl ⟨tyInt rfl, trivial⟩ (by kernel_rfl) h
/-! f194 athanor/athanorref11.among -/
def L194_2 (s0 : List UInt8) (x1 : Dat) (n5 : Int) (g : Glob) (Qf : Out → Glob → Prop) : Prop := CutP TT Tryz.f194 [1, 0, 1, 0] Qf (mkC TT 194 Tryz.f194 2 [(0, .v 9 (.str s0)), (1, .v 61 (x1)), (5, .v 3 (.int .i64 n5))] [] g)
def lo194 : List CutI := [⟨2, [(0, .keep), (1, .keep), (5, .keep)], []⟩]
theorem w194 {s0 : List UInt8} {x1 : Dat} {g : Glob} {Qf : Out → Glob → Prop} (h0 : s0.length ≤ 2 ^ 40) (h1 : HasTy TT 61 x1)
    (h : L194_2 s0 x1 0 g Qf) :
    EvF TT 194 [.str s0, x1] g Qf :=
  sx_fun (rk := rk) (fn := Tryz.f194) (loops := lo194) (joins := []) (n := 100000) (args := [(9, .str s0), (61, x1)]) rfl rfl rfl rfl ⟨tyStr rfl h0, h1, trivial⟩ (by kernel_rfl) h
theorem w194_2 {s0 : List UInt8} {x1 : Dat} {n5 : Int} {g : Glob} {Qf : Out → Glob → Prop} 
    (h : Br (decide (n5 < (↑(elsOf x1).length : Int))) (InB n5 (elsOf x1).length ∧ Br (strOf (fld (getE (elsOf x1) n5) 0) == s0) (Qf (Out.val (Val.d (Dat.bool true))) g) (L194_2 s0 x1 (IntKind.i64.wrap (n5 + 1)) g Qf)) (Qf (Out.val (Val.d (Dat.bool false))) g)) :
    L194_2 s0 x1 n5 g Qf := sx_cut (rk := rk) (loops := lo194) (joins := []) (n := 100000) (by kernel_rfl) h
/-! f120 athanor/athanorref11.Key -/
def lo120 : List CutI := []
theorem w120 {s0 : List UInt8} {g : Glob} {Qf : Out → Glob → Prop} (h0 : s0.length ≤ 2 ^ 40)
    (h : EvF TT 194 [Dat.str s0, Dat.sl 1 [Dat.str [116, 121, 112, 101], Dat.str [102, 117, 110], Dat.str [108, 101, 116], Dat.str [114, 101, 99], Dat.str [105, 110], Dat.str [99, 97, 115, 101], Dat.str [111, 102], Dat.str [101, 110, 100], Dat.str [105, 102], Dat.str [116, 104, 101, 110], Dat.str [101, 108, 115, 101], Dat.str [112, 114, 105, 110, 116]]] g fun out g' => Outc (fun x => Qf (Out.panic x) g') (fun v => ∃ b, v = Val.d (Dat.bool b) ∧ Qf (Out.val (Val.d (Dat.bool b))) g') out) :
    EvF TT 120 [.str s0] g Qf :=
  sx_fun (rk := rk) (fn := Tryz.f120) (loops := lo120) (joins := []) (n := 100000) (args := [(9, .str s0)]) rfl rfl rfl rfl ⟨tyStr rfl h0, trivial⟩ (by kernel_rfl) h
/-! f72 athanor/athanorref11.Word -/
def L72_4 (s0 : List UInt8) (n5 : Int) (g : Glob) (Qf : Out → Glob → Prop) : Prop := CutP TT Tryz.f72 [1, 1, 0, 1, 0] Qf (mkC TT 72 Tryz.f72 2 [(0, .v 9 (.str s0)), (5, .v 3 (.int .i64 n5))] [] g)
def lo72 : List CutI := [⟨4, [(0, .keep), (5, .keep)], []⟩]
theorem w72 {s0 : List UInt8} {b1 : Bool} {g : Glob} {Qf : Out → Glob → Prop} (h0 : s0.length ≤ 2 ^ 40)
    (h : Br (decide ((↑s0.length : Int) < 1)) (Qf (Out.val (Val.d (Dat.bool false))) g) (Br (decide (32 < (↑s0.length : Int))) (Qf (Out.val (Val.d (Dat.bool false))) g) (Br b1 (InB 0 s0.length ∧ EvF TT 117 [Dat.int IntKind.u8 (byteAt s0 0)] g fun out g' => Outc (fun x => Qf (Out.panic x) g') (fun v => ∃ b, v = Val.d (Dat.bool b) ∧ Br (!b) (Qf (Out.val (Val.d (Dat.bool false))) g') (Br (!b1) (InB 0 s0.length ∧ EvF TT 118 [Dat.int IntKind.u8 (byteAt s0 0)] g' fun out g' => Outc (fun x => Qf (Out.panic x) g') (fun v => ∃ b, v = Val.d (Dat.bool b) ∧ Br (!b) (Qf (Out.val (Val.d (Dat.bool false))) g') (L72_4 s0 1 g' Qf)) out) (L72_4 s0 1 g' Qf))) out) (Br (!b1) (InB 0 s0.length ∧ EvF TT 118 [Dat.int IntKind.u8 (byteAt s0 0)] g fun out g' => Outc (fun x => Qf (Out.panic x) g') (fun v => ∃ b, v = Val.d (Dat.bool b) ∧ Br (!b) (Qf (Out.val (Val.d (Dat.bool false))) g') (L72_4 s0 1 g' Qf)) out) (L72_4 s0 1 g Qf))))) :
    EvF TT 72 [.str s0, .bool b1] g Qf :=
  sx_fun (rk := rk) (fn := Tryz.f72) (loops := lo72) (joins := []) (n := 100000) (args := [(9, .str s0), (4, .bool b1)]) rfl rfl rfl rfl ⟨tyStr rfl h0, tyBool rfl, trivial⟩ (by kernel_rfl) h
theorem w72_4 {s0 : List UInt8} {n5 : Int} {g : Glob} {Qf : Out → Glob → Prop} 
    (h : Br (decide (n5 < (↑s0.length : Int))) (InB n5 s0.length ∧ EvF TT 140 [Dat.int IntKind.u8 (byteAt s0 n5)] g fun out g' => Outc (fun x => Qf (Out.panic x) g') (fun v => ∃ b, v = Val.d (Dat.bool b) ∧ Br (!b) (Qf (Out.val (Val.d (Dat.bool false))) g') (L72_4 s0 (IntKind.i64.wrap (n5 + 1)) g' Qf)) out) (Qf (Out.val (Val.d (Dat.bool true))) g)) :
    L72_4 s0 n5 g Qf := sx_cut (rk := rk) (loops := lo72) (joins := []) (n := 100000) (by kernel_rfl) h
/-! f71 athanor/athanorref12.lowWord -/
def lo71 : List CutI := []
theorem w71 {s0 : List UInt8} {g : Glob} {Qf : Out → Glob → Prop} (h0 : s0.length ≤ 2 ^ 40)
    (h : EvF TT 72 [Dat.str s0, Dat.bool true] g fun out g' => Outc (fun x => Qf (Out.panic x) g') (fun v => ∃ b, v = Val.d (Dat.bool b) ∧ Br b (EvF TT 120 [Dat.str s0] g' fun out g' => Outc (fun x => Qf (Out.panic x) g') (fun v => ∃ b, v = Val.d (Dat.bool b) ∧ Qf (Out.val (Val.d (Dat.bool !b))) g') out) (Qf (Out.val (Val.d (Dat.bool false))) g')) out) :
    EvF TT 71 [.str s0] g Qf :=
  sx_fun (rk := rk) (fn := Tryz.f71) (loops := lo71) (joins := []) (n := 100000) (args := [(9, .str s0)]) rfl rfl rfl rfl ⟨tyStr rfl h0, trivial⟩ (by kernel_rfl) h
/-! f73 athanor/athanorref12.upWord -/
def lo73 : List CutI := []
theorem w73 {s0 : List UInt8} {g : Glob} {Qf : Out → Glob → Prop} (h0 : s0.length ≤ 2 ^ 40)
    (h : EvF TT 72 [Dat.str s0, Dat.bool false] g fun out g' => Outc (fun x => Qf (Out.panic x) g') (fun v => ∃ b, v = Val.d (Dat.bool b) ∧ Qf (Out.val (Val.d (Dat.bool b))) g') out) :
    EvF TT 73 [.str s0] g Qf :=
  sx_fun (rk := rk) (fn := Tryz.f73) (loops := lo73) (joins := []) (n := 100000) (args := [(9, .str s0)]) rfl rfl rfl rfl ⟨tyStr rfl h0, trivial⟩ (by kernel_rfl) h
/-! f123 athanor/athanorref11.Sign -/
def lo123 : List CutI := []
theorem w123 {s0 : List UInt8} {g : Glob} {Qf : Out → Glob → Prop} (h0 : s0.length ≤ 2 ^ 40)
    (h : EvF TT 194 [Dat.str s0, Dat.sl 1 [Dat.str [45, 62], Dat.str [61, 61], Dat.str [124], Dat.str [61], Dat.str [40], Dat.str [41], Dat.str [59], Dat.str [43], Dat.str [45], Dat.str [42], Dat.str [47], Dat.str [37], Dat.str [60], Dat.str [95]]] g fun out g' => Outc (fun x => Qf (Out.panic x) g') (fun v => ∃ b, v = Val.d (Dat.bool b) ∧ Qf (Out.val (Val.d (Dat.bool b))) g') out) :
    EvF TT 123 [.str s0] g Qf :=
  sx_fun (rk := rk) (fn := Tryz.f123) (loops := lo123) (joins := []) (n := 100000) (args := [(9, .str s0)]) rfl rfl rfl rfl ⟨tyStr rfl h0, trivial⟩ (by kernel_rfl) h
/-! f124 athanor/athanorref10.In -/
def lo124 : List CutI := []
theorem w124 {n0 : Int} {g : Glob} {Qf : Out → Glob → Prop} 
    (h : Br (decide (-1073741824 ≤ n0)) (Qf (Out.val (Val.d (Dat.bool (decide (n0 ≤ 1073741823))))) g) (Qf (Out.val (Val.d (Dat.bool false))) g)) :
    EvF TT 124 [.int .i64 n0] g Qf :=
  sx_fun (rk := rk) (fn := Tryz.f124) (loops := lo124) (joins := []) (n := 100000) (args := [(3, .int .i64 n0)]) rfl rfl rfl rfl ⟨tyInt rfl, trivial⟩ (by kernel_rfl) h
/-! f195 athanor/ints.In -/
def lo195 : List CutI := []
theorem w195 {n0 : Int} {g : Glob} {Qf : Out → Glob → Prop} 
    (h : Br (decide (-1073741824 ≤ n0)) (Qf (Out.val (Val.d (Dat.bool (decide (n0 < 1073741824))))) g) (Qf (Out.val (Val.d (Dat.bool false))) g)) :
    EvF TT 195 [.int .i64 n0] g Qf :=
  sx_fun (rk := rk) (fn := Tryz.f195) (loops := lo195) (joins := []) (n := 100000) (args := [(3, .int .i64 n0)]) rfl rfl rfl rfl ⟨tyInt rfl, trivial⟩ (by kernel_rfl) h
/-! f220 athanor/ints.words -/
def lo220 : List CutI := []
theorem w220 {g : Glob} {Qf : Out → Glob → Prop} 
    (h : Qf (Out.val (Val.d (Dat.agg [Dat.str [], Dat.str [43], Dat.str [45], Dat.str [42], Dat.str [47], Dat.str [37], Dat.str [60], Dat.str [61, 61]]))) g) :
    EvF TT 220 [] g Qf :=
  sx_fun (rk := rk) (fn := Tryz.f220) (loops := lo220) (joins := []) (n := 100000) (args := []) rfl rfl rfl rfl trivial (by kernel_rfl) h
/-! f196 athanor/ints.Op -/
def L196_2 (s0 : List UInt8) (x5 : Dat) (n6 : Int) (g : Glob) (Qf : Out → Glob → Prop) : Prop := CutP TT Tryz.f196 [1, 0, 1, 0] Qf (mkC TT 196 Tryz.f196 1 [(0, .v 9 (.str s0)), (5, .v 205 (x5)), (6, .v 3 (.int .i64 n6))] [] g)
def lo196 : List CutI := [⟨2, [(0, .keep), (5, .keep), (6, .keep)], []⟩]
theorem w196 {s0 : List UInt8} {g : Glob} {Qf : Out → Glob → Prop} (h0 : s0.length ≤ 2 ^ 40)
    (h : EvF TT 220 [] g fun out g' => Outc (fun x => Qf (Out.panic x) g') (fun v => ∃ x, HasTy TT 205 x ∧ v = Val.d x ∧ L196_2 s0 x 0 g' Qf) out) :
    EvF TT 196 [.str s0] g Qf :=
  sx_fun (rk := rk) (fn := Tryz.f196) (loops := lo196) (joins := []) (n := 100000) (args := [(9, .str s0)]) rfl rfl rfl rfl ⟨tyStr rfl h0, trivial⟩ (by kernel_rfl) h
theorem w196_2 {s0 : List UInt8} {x5 : Dat} {n6 : Int} {g : Glob} {Qf : Out → Glob → Prop} 
    (h : Br (decide (n6 < 8)) (Br (n6 == 7) (Br (strOf (fld x5 7) == s0) (Br (decide (0 < n6)) (Qf (Out.val (Val.d (Dat.int IntKind.i64 n6))) g) (L196_2 s0 x5 (IntKind.i64.wrap (n6 + 1)) g Qf)) (L196_2 s0 x5 (IntKind.i64.wrap (n6 + 1)) g Qf)) (Br (n6 == 6) (Br (strOf (fld x5 6) == s0) (Br (decide (0 < n6)) (Qf (Out.val (Val.d (Dat.int IntKind.i64 n6))) g) (L196_2 s0 x5 (IntKind.i64.wrap (n6 + 1)) g Qf)) (L196_2 s0 x5 (IntKind.i64.wrap (n6 + 1)) g Qf)) (Br (n6 == 5) (Br (strOf (fld x5 5) == s0) (Br (decide (0 < n6)) (Qf (Out.val (Val.d (Dat.int IntKind.i64 n6))) g) (L196_2 s0 x5 (IntKind.i64.wrap (n6 + 1)) g Qf)) (L196_2 s0 x5 (IntKind.i64.wrap (n6 + 1)) g Qf)) (Br (n6 == 4) (Br (strOf (fld x5 4) == s0) (Br (decide (0 < n6)) (Qf (Out.val (Val.d (Dat.int IntKind.i64 n6))) g) (L196_2 s0 x5 (IntKind.i64.wrap (n6 + 1)) g Qf)) (L196_2 s0 x5 (IntKind.i64.wrap (n6 + 1)) g Qf)) (Br (n6 == 3) (Br (strOf (fld x5 3) == s0) (Br (decide (0 < n6)) (Qf (Out.val (Val.d (Dat.int IntKind.i64 n6))) g) (L196_2 s0 x5 (IntKind.i64.wrap (n6 + 1)) g Qf)) (L196_2 s0 x5 (IntKind.i64.wrap (n6 + 1)) g Qf)) (Br (n6 == 2) (Br (strOf (fld x5 2) == s0) (Br (decide (0 < n6)) (Qf (Out.val (Val.d (Dat.int IntKind.i64 n6))) g) (L196_2 s0 x5 (IntKind.i64.wrap (n6 + 1)) g Qf)) (L196_2 s0 x5 (IntKind.i64.wrap (n6 + 1)) g Qf)) (Br (n6 == 1) (Br (strOf (fld x5 1) == s0) (Br (decide (0 < n6)) (Qf (Out.val (Val.d (Dat.int IntKind.i64 n6))) g) (L196_2 s0 x5 (IntKind.i64.wrap (n6 + 1)) g Qf)) (L196_2 s0 x5 (IntKind.i64.wrap (n6 + 1)) g Qf)) (Br (n6 == 0) (Br (strOf (fld x5 0) == s0) (Br (decide (0 < n6)) (Qf (Out.val (Val.d (Dat.int IntKind.i64 n6))) g) (L196_2 s0 x5 (IntKind.i64.wrap (n6 + 1)) g Qf)) (L196_2 s0 x5 (IntKind.i64.wrap (n6 + 1)) g Qf)) False)))))))) (Qf (Out.val (Val.d (Dat.int IntKind.i64 0))) g)) :
    L196_2 s0 x5 n6 g Qf := sx_cut (rk := rk) (loops := lo196) (joins := []) (n := 100000) (by kernel_rfl) h
/-! f223 athanor/athanorref10.words -/
def lo223 : List CutI := []
theorem w223 {g : Glob} {Qf : Out → Glob → Prop} 
    (h : Qf (Out.val (Val.uq 1 [Dat.str [], Dat.str [43], Dat.str [45], Dat.str [42], Dat.str [47], Dat.str [37], Dat.str [60], Dat.str [61, 61]])) g) :
    EvF TT 223 [] g Qf :=
  sx_fun (rk := rk) (fn := Tryz.f223) (loops := lo223) (joins := []) (n := 100000) (args := []) rfl rfl rfl rfl trivial (by kernel_rfl) h
/-! f203 athanor/athanorref10.Op -/
def L203_2 (s0 : List UInt8) (n3 : Int) (g : Glob) (Qf : Out → Glob → Prop) : Prop := CutP TT Tryz.f203 [1, 0, 1, 0] Qf (mkC TT 203 Tryz.f203 1 [(0, .v 9 (.str s0)), (3, .v 3 (.int .i64 n3))] [] g)
def lo203 : List CutI := [⟨2, [(0, .keep), (3, .keep)], []⟩]
theorem w203 {s0 : List UInt8} {g : Glob} {Qf : Out → Glob → Prop} (h0 : s0.length ≤ 2 ^ 40)
    (h : L203_2 s0 1 g Qf) :
    EvF TT 203 [.str s0] g Qf :=
  sx_fun (rk := rk) (fn := Tryz.f203) (loops := lo203) (joins := []) (n := 100000) (args := [(9, .str s0)]) rfl rfl rfl rfl ⟨tyStr rfl h0, trivial⟩ (by kernel_rfl) h
theorem w203_2 {s0 : List UInt8} {n3 : Int} {g : Glob} {Qf : Out → Glob → Prop} 
    (h : EvF TT 223 [] g fun out g' => Outc (fun x => Qf (Out.panic x) g') (fun v => ∃ x, HasTy TT 61 x ∧ RetV v x ∧ Br (decide (n3 < (↑(elsOf x).length : Int))) (EvF TT 223 [] g' fun out g' => Outc (fun x => Qf (Out.panic x) g') (fun v => ∃ x, HasTy TT 61 x ∧ RetV v x ∧ InB n3 (elsOf x).length ∧ Br (strOf (fld (getE (elsOf x) n3) 0) == s0) (Qf (Out.val (Val.d (Dat.int IntKind.i64 n3))) g') (L203_2 s0 (IntKind.i64.wrap (n3 + 1)) g' Qf)) out) (Qf (Out.val (Val.d (Dat.int IntKind.i64 0))) g')) out) :
    L203_2 s0 n3 g Qf := sx_cut (rk := rk) (loops := lo203) (joins := []) (n := 100000) (by kernel_rfl) h
/-! f165 athanor/lex.small -/
def lo165 : List CutI := []
theorem w165 {n0 : Int} {g : Glob} {Qf : Out → Glob → Prop} 
    (h : Br (decide (97 ≤ n0)) (Qf (Out.val (Val.d (Dat.bool (decide (n0 ≤ 122))))) g) (Qf (Out.val (Val.d (Dat.bool false))) g)) :
    EvF TT 165 [.int .i32 n0] g Qf :=
  sx_fun (rk := rk) (fn := Tryz.f165) (loops := lo165) (joins := []) (n := 100000) (args := [(21, .int .i32 n0)]) rfl rfl rfl rfl ⟨tyInt rfl, trivial⟩ (by kernel_rfl) h
/-! f167 athanor/lex.great -/
def lo167 : List CutI := []
theorem w167 {n0 : Int} {g : Glob} {Qf : Out → Glob → Prop} 
    (h : Br (decide (65 ≤ n0)) (Qf (Out.val (Val.d (Dat.bool (decide (n0 ≤ 90))))) g) (Qf (Out.val (Val.d (Dat.bool false))) g)) :
    EvF TT 167 [.int .i32 n0] g Qf :=
  sx_fun (rk := rk) (fn := Tryz.f167) (loops := lo167) (joins := []) (n := 100000) (args := [(21, .int .i32 n0)]) rfl rfl rfl rfl ⟨tyInt rfl, trivial⟩ (by kernel_rfl) h
/-! f168 athanor/lex.digit -/
def lo168 : List CutI := []
theorem w168 {n0 : Int} {g : Glob} {Qf : Out → Glob → Prop} 
    (h : Br (decide (48 ≤ n0)) (Qf (Out.val (Val.d (Dat.bool (decide (n0 ≤ 57))))) g) (Qf (Out.val (Val.d (Dat.bool false))) g)) :
    EvF TT 168 [.int .i32 n0] g Qf :=
  sx_fun (rk := rk) (fn := Tryz.f168) (loops := lo168) (joins := []) (n := 100000) (args := [(21, .int .i32 n0)]) rfl rfl rfl rfl ⟨tyInt rfl, trivial⟩ (by kernel_rfl) h
/-! f164 athanor/lex.inside -/
def lo164 : List CutI := []
theorem w164 {n0 : Int} {g : Glob} {Qf : Out → Glob → Prop} 
    (h : EvF TT 165 [Dat.int IntKind.i32 n0] g fun out g' => Outc (fun x => Qf (Out.panic x) g') (fun v => ∃ b, v = Val.d (Dat.bool b) ∧ Br b (Qf (Out.val (Val.d (Dat.bool true))) g') (EvF TT 167 [Dat.int IntKind.i32 n0] g' fun out g' => Outc (fun x => Qf (Out.panic x) g') (fun v => ∃ b, v = Val.d (Dat.bool b) ∧ Br b (Qf (Out.val (Val.d (Dat.bool true))) g') (EvF TT 168 [Dat.int IntKind.i32 n0] g' fun out g' => Outc (fun x => Qf (Out.panic x) g') (fun v => ∃ b, v = Val.d (Dat.bool b) ∧ Br b (Qf (Out.val (Val.d (Dat.bool true))) g') (Qf (Out.val (Val.d (Dat.bool (n0 == 95)))) g')) out)) out)) out) :
    EvF TT 164 [.int .i32 n0] g Qf :=
  sx_fun (rk := rk) (fn := Tryz.f164) (loops := lo164) (joins := []) (n := 100000) (args := [(21, .int .i32 n0)]) rfl rfl rfl rfl ⟨tyInt rfl, trivial⟩ (by kernel_rfl) h
/-! f163 athanor/lex.run -/
def L163_2 (s0 : List UInt8) (f1 : FuncId) (c1 : List Dat) (s8 : List UInt8) (q8 : Nat) (g : Glob) (Qf : Out → Glob → Prop) : Prop := CutP TT Tryz.f163 [1, 0, 1, 0] Qf (mkC TT 163 Tryz.f163 2 [(0, .v 9 (.str s0)), (1, .v 175 (.clo f1 c1)), (8, .loc 8 0 0)] [(8, .iter s8 q8)] g)
def lo163 : List CutI := [⟨2, [(0, .keep), (1, .keep), (8, .keep)], [(8, .iter)]⟩]
theorem w163 {s0 : List UInt8} {f1 : FuncId} {c1 : List Dat} {g : Glob} {Qf : Out → Glob → Prop} (h0 : s0.length ≤ 2 ^ 40)
    (h : L163_2 s0 f1 c1 s0 0 g Qf) :
    EvF TT 163 [.str s0, .clo f1 c1] g Qf :=
  sx_fun (rk := rk) (fn := Tryz.f163) (loops := lo163) (joins := []) (n := 100000) (args := [(9, .str s0), (175, .clo f1 c1)]) rfl rfl rfl rfl ⟨tyStr rfl h0, tyClo rfl, trivial⟩ (by kernel_rfl) h
theorem w163_2 {s0 : List UInt8} {f1 : FuncId} {c1 : List Dat} {s8 : List UInt8} {q8 : Nat} {g : Glob} {Qf : Out → Glob → Prop} 
    (h : Br (decide (q8 < s8.length)) (EvF TT f1 (Dat.int IntKind.i32 (runeAt s8 q8) :: c1) g fun out g' => Outc (fun x => Qf (Out.panic x) g') (fun v => ∃ b, v = Val.d (Dat.bool b) ∧ Br (!b) (Qf (Out.val (Val.d (Dat.int IntKind.i64 (↑q8 : Int)))) g') (L163_2 s0 f1 c1 s8 (q8 + runeLen s8 q8) g' Qf)) out) (Qf (Out.val (Val.d (Dat.int IntKind.i64 (↑s0.length : Int)))) g)) :
    L163_2 s0 f1 c1 s8 q8 g Qf := sx_cut (rk := rk) (loops := lo163) (joins := []) (n := 100000) (by kernel_rfl) h
/-! f208 athanor/lex.key -/
def lo208 : List CutI := []
theorem w208 {s0 : List UInt8} {g : Glob} {Qf : Out → Glob → Prop} (h0 : s0.length ≤ 2 ^ 40)
    (h : Br (s0 == [116, 121, 112, 101]) (Br (s0 == [116, 121, 112, 101]) (Qf (Out.val (Val.d (Dat.bool true))) g) (Qf (Out.val (Val.d (Dat.bool false))) g)) (Br (s0 == [102, 117, 110]) (Br (s0 == [102, 117, 110]) (Qf (Out.val (Val.d (Dat.bool true))) g) (Qf (Out.val (Val.d (Dat.bool false))) g)) (Br (s0 == [108, 101, 116]) (Br (s0 == [108, 101, 116]) (Qf (Out.val (Val.d (Dat.bool true))) g) (Qf (Out.val (Val.d (Dat.bool false))) g)) (Br (s0 == [114, 101, 99]) (Br (s0 == [114, 101, 99]) (Qf (Out.val (Val.d (Dat.bool true))) g) (Qf (Out.val (Val.d (Dat.bool false))) g)) (Br (s0 == [105, 110]) (Br (s0 == [105, 110]) (Qf (Out.val (Val.d (Dat.bool true))) g) (Qf (Out.val (Val.d (Dat.bool false))) g)) (Br (s0 == [99, 97, 115, 101]) (Br (s0 == [99, 97, 115, 101]) (Qf (Out.val (Val.d (Dat.bool true))) g) (Qf (Out.val (Val.d (Dat.bool false))) g)) (Br (s0 == [111, 102]) (Br (s0 == [111, 102]) (Qf (Out.val (Val.d (Dat.bool true))) g) (Qf (Out.val (Val.d (Dat.bool false))) g)) (Br (s0 == [101, 110, 100]) (Br (s0 == [101, 110, 100]) (Qf (Out.val (Val.d (Dat.bool true))) g) (Qf (Out.val (Val.d (Dat.bool false))) g)) (Br (s0 == [105, 102]) (Br (s0 == [105, 102]) (Qf (Out.val (Val.d (Dat.bool true))) g) (Qf (Out.val (Val.d (Dat.bool false))) g)) (Br (s0 == [116, 104, 101, 110]) (Br (s0 == [116, 104, 101, 110]) (Qf (Out.val (Val.d (Dat.bool true))) g) (Qf (Out.val (Val.d (Dat.bool false))) g)) (Br (s0 == [101, 108, 115, 101]) (Br (s0 == [101, 108, 115, 101]) (Qf (Out.val (Val.d (Dat.bool true))) g) (Qf (Out.val (Val.d (Dat.bool false))) g)) (Br (s0 == [112, 114, 105, 110, 116]) (Qf (Out.val (Val.d (Dat.bool true))) g) (Qf (Out.val (Val.d (Dat.bool false))) g))))))))))))) :
    EvF TT 208 [.str s0] g Qf :=
  sx_fun (rk := rk) (fn := Tryz.f208) (loops := lo208) (joins := []) (n := 100000) (args := [(9, .str s0)]) rfl rfl rfl rfl ⟨tyStr rfl h0, trivial⟩ (by kernel_rfl) h
/-! f166 athanor/lex.word -/
def lo166 : List CutI := []
theorem w166 {n0 : Int} {s1 : List UInt8} {g : Glob} {Qf : Out → Glob → Prop} (h1 : s1.length ≤ 2 ^ 40)
    (h : Br (decide (32 < (↑s1.length : Int))) (Qf (Out.val (Val.tuple [Val.d (Dat.agg [Dat.int IntKind.i64 0, Dat.str [], Dat.int IntKind.i64 0, Dat.int IntKind.i64 0]), Val.d (Dat.int IntKind.i64 2)])) g) (Br (n0 == 1) (EvF TT 208 [Dat.str s1] g fun out g' => Outc (fun x => Qf (Out.panic x) g') (fun v => ∃ b, v = Val.d (Dat.bool b) ∧ Br b (Qf (Out.val (Val.tuple [Val.d (Dat.agg [Dat.int IntKind.i64 (intOf (Dat.int IntKind.i64 5)), Dat.str s1, Dat.int IntKind.i64 (intOf (Dat.int IntKind.i64 0)), Dat.int IntKind.i64 (intOf (Dat.int IntKind.i64 0))]), Val.d (Dat.int IntKind.i64 0)])) g') (Qf (Out.val (Val.tuple [Val.d (Dat.agg [Dat.int IntKind.i64 (intOf (Dat.int IntKind.i64 n0)), Dat.str s1, Dat.int IntKind.i64 (intOf (Dat.int IntKind.i64 0)), Dat.int IntKind.i64 (intOf (Dat.int IntKind.i64 0))]), Val.d (Dat.int IntKind.i64 0)])) g')) out) (Qf (Out.val (Val.tuple [Val.d (Dat.agg [Dat.int IntKind.i64 (intOf (Dat.int IntKind.i64 n0)), Dat.str s1, Dat.int IntKind.i64 (intOf (Dat.int IntKind.i64 0)), Dat.int IntKind.i64 (intOf (Dat.int IntKind.i64 0))]), Val.d (Dat.int IntKind.i64 0)])) g))) :
    EvF TT 166 [.int .i64 n0, .str s1] g Qf :=
  sx_fun (rk := rk) (fn := Tryz.f166) (loops := lo166) (joins := []) (n := 100000) (args := [(3, .int .i64 n0), (9, .str s1)]) rfl rfl rfl rfl ⟨tyInt rfl, tyStr rfl h1, trivial⟩ (by kernel_rfl) h
/-! f211 internal/stringslite.HasPrefix -/
def lo211 : List CutI := []
theorem w211 {s0 : List UInt8} {s1 : List UInt8} {g : Glob} {Qf : Out → Glob → Prop} (h0 : s0.length ≤ 2 ^ 40) (h1 : s1.length ≤ 2 ^ 40)
    (h : Br (decide ((↑s1.length : Int) ≤ (↑s0.length : Int))) (InS 0 (↑s1.length : Int) s0.length ∧ Qf (Out.val (Val.d (Dat.bool (subStr s0 0 (↑s1.length : Int) == s1)))) g) (Qf (Out.val (Val.d (Dat.bool false))) g)) :
    EvF TT 211 [.str s0, .str s1] g Qf :=
  sx_fun (rk := rk) (fn := Tryz.f211) (loops := lo211) (joins := []) (n := 100000) (args := [(9, .str s0), (9, .str s1)]) rfl rfl rfl rfl ⟨tyStr rfl h0, tyStr rfl h1, trivial⟩ (by kernel_rfl) h
/-! f171 strings.HasPrefix -/
def lo171 : List CutI := []
theorem w171 {s0 : List UInt8} {s1 : List UInt8} {g : Glob} {Qf : Out → Glob → Prop} (h0 : s0.length ≤ 2 ^ 40) (h1 : s1.length ≤ 2 ^ 40)
    (h : EvF TT 211 [Dat.str s0, Dat.str s1] g fun out g' => Outc (fun x => Qf (Out.panic x) g') (fun v => ∃ b, v = Val.d (Dat.bool b) ∧ Qf (Out.val (Val.d (Dat.bool b))) g') out) :
    EvF TT 171 [.str s0, .str s1] g Qf :=
  sx_fun (rk := rk) (fn := Tryz.f171) (loops := lo171) (joins := []) (n := 100000) (args := [(9, .str s0), (9, .str s1)]) rfl rfl rfl rfl ⟨tyStr rfl h0, tyStr rfl h1, trivial⟩ (by kernel_rfl) h
/-! f170 athanor/lex.signs -/
def lo170 : List CutI := []
theorem w170 {g : Glob} {Qf : Out → Glob → Prop} 
    (h : Qf (Out.val (Val.uq 1 [Dat.str [45, 62], Dat.str [61, 61], Dat.str [124], Dat.str [61], Dat.str [40], Dat.str [41], Dat.str [59], Dat.str [43], Dat.str [45], Dat.str [42], Dat.str [47], Dat.str [37], Dat.str [60], Dat.str [95]])) g) :
    EvF TT 170 [] g Qf :=
  sx_fun (rk := rk) (fn := Tryz.f170) (loops := lo170) (joins := []) (n := 100000) (args := []) rfl rfl rfl rfl trivial (by kernel_rfl) h
/-! f97 athanor/lex.token -/
def L97_17 (s0 : List UInt8) (x94 : Dat) (n95 : Int) (n96 : Int) (y2 : Dat) (g : Glob) (Qf : Out → Glob → Prop) : Prop := CutP TT Tryz.f97 [1, 1, 1, 1, 0, 1, 0] Qf (mkC TT 97 Tryz.f97 1 [(0, .v 9 (.str s0)), (2, .loc 2 0 0), (94, .v 61 (x94)), (95, .v 3 (.int .i64 n95)), (96, .v 3 (.int .i64 n96))] [(2, .whole 43 y2)] g)
def lo97 : List CutI := [⟨17, [(0, .keep), (2, .keep), (94, .keep), (95, .keep), (96, .keep)], [(2, .whole 43)]⟩]
theorem w97 {s0 : List UInt8} {g : Glob} {Qf : Out → Glob → Prop} (h0 : s0.length ≤ 2 ^ 40)
    (h : InB 0 s0.length ∧
  InS 1 (↑s0.length : Int) s0.length ∧
    EvF TT 163 [Dat.str (subStr s0 1 (↑s0.length : Int)), Dat.clo 164 []] g fun out g' =>
      Outc (fun x => Qf (Out.panic x) g')
        (fun v =>
          ∃ n,
            v = Val.d (Dat.int IntKind.i64 n) ∧
              EvF TT 165 [Dat.int IntKind.i32 (IntKind.i32.wrap (byteAt s0 0))] g' fun out g' =>
                Outc (fun x => Qf (Out.panic x) g')
                  (fun v =>
                    ∃ b,
                      v = Val.d (Dat.bool b) ∧
                        Br b (InS 0 (IntKind.i64.wrap (1 + n)) s0.length ∧ EvF TT 166 [Dat.int IntKind.i64 1, Dat.str (subStr s0 0 (IntKind.i64.wrap (1 + n)))] g' fun out g' => Outc (fun x => Qf (Out.panic x) g') (fun v => ∃ x, HasTy TT 43 x ∧ ∃ n_1, RetT v [x, Dat.int IntKind.i64 n_1] ∧ Qf (Out.val (Val.tuple [Val.d (Dat.agg [Dat.int IntKind.i64 (intOf (fld x 0)), Dat.str (strOf (fld x 1)), Dat.int IntKind.i64 (intOf (fld x 2)), Dat.int IntKind.i64 (intOf (fld x 3))]), Val.d (Dat.int IntKind.i64 (IntKind.i64.wrap (1 + n))), Val.d (Dat.int IntKind.i64 n_1)])) g') out)
                          (EvF TT 167 [Dat.int IntKind.i32 (IntKind.i32.wrap (byteAt s0 0))] g' fun out g' =>
                            Outc (fun x => Qf (Out.panic x) g')
                              (fun v =>
                                ∃ b,
                                  v = Val.d (Dat.bool b) ∧
                                    Br b (InS 0 (IntKind.i64.wrap (1 + n)) s0.length ∧ EvF TT 166 [Dat.int IntKind.i64 2, Dat.str (subStr s0 0 (IntKind.i64.wrap (1 + n)))] g' fun out g' => Outc (fun x => Qf (Out.panic x) g') (fun v => ∃ x, HasTy TT 43 x ∧ ∃ n_1, RetT v [x, Dat.int IntKind.i64 n_1] ∧ Qf (Out.val (Val.tuple [Val.d (Dat.agg [Dat.int IntKind.i64 (intOf (fld x 0)), Dat.str (strOf (fld x 1)), Dat.int IntKind.i64 (intOf (fld x 2)), Dat.int IntKind.i64 (intOf (fld x 3))]), Val.d (Dat.int IntKind.i64 (IntKind.i64.wrap (1 + n))), Val.d (Dat.int IntKind.i64 n_1)])) g') out)
                                      (Br (IntKind.i32.wrap (byteAt s0 0) == 39)
                                        (Br (decide (1 < IntKind.i64.wrap (1 + n))) (InB 1 s0.length ∧ EvF TT 165 [Dat.int IntKind.i32 (IntKind.i32.wrap (byteAt s0 1))] g' fun out g' => Outc (fun x => Qf (Out.panic x) g') (fun v => ∃ b, v = Val.d (Dat.bool b) ∧ Br b (InS 1 (IntKind.i64.wrap (1 + n)) s0.length ∧ EvF TT 166 [Dat.int IntKind.i64 3, Dat.str (subStr s0 1 (IntKind.i64.wrap (1 + n)))] g' fun out g' => Outc (fun x => Qf (Out.panic x) g') (fun v => ∃ x, HasTy TT 43 x ∧ ∃ n_1, RetT v [x, Dat.int IntKind.i64 n_1] ∧ Qf (Out.val (Val.tuple [Val.d (Dat.agg [Dat.int IntKind.i64 (intOf (fld x 0)), Dat.str (strOf (fld x 1)), Dat.int IntKind.i64 (intOf (fld x 2)), Dat.int IntKind.i64 (intOf (fld x 3))]), Val.d (Dat.int IntKind.i64 (IntKind.i64.wrap (1 + n))), Val.d (Dat.int IntKind.i64 n_1)])) g') out) (Br (IntKind.i32.wrap (byteAt s0 0) == 126) (InS 1 (↑s0.length : Int) s0.length ∧ EvF TT 163 [Dat.str (subStr s0 1 (↑s0.length : Int)), Dat.clo 168 []] g' fun out g' => Outc (fun x => Qf (Out.panic x) g') (fun v => ∃ n, v = Val.d (Dat.int IntKind.i64 n) ∧ InS 0 (IntKind.i64.wrap (1 + n)) s0.length ∧ EvF TT 169 [Dat.str (subStr s0 0 (IntKind.i64.wrap (1 + n)))] g' fun out g' => Outc (fun x => Qf (Out.panic x) g') (fun v => ∃ x, HasTy TT 43 x ∧ ∃ n_1, RetT v [x, Dat.int IntKind.i64 n_1] ∧ Qf (Out.val (Val.tuple [Val.d (Dat.agg [Dat.int IntKind.i64 (intOf (fld x 0)), Dat.str (strOf (fld x 1)), Dat.int IntKind.i64 (intOf (fld x 2)), Dat.int IntKind.i64 (intOf (fld x 3))]), Val.d (Dat.int IntKind.i64 (IntKind.i64.wrap (1 + n))), Val.d (Dat.int IntKind.i64 n_1)])) g') out) out) (EvF TT 168 [Dat.int IntKind.i32 (IntKind.i32.wrap (byteAt s0 0))] g' fun out g' => Outc (fun x => Qf (Out.panic x) g') (fun v => ∃ b, v = Val.d (Dat.bool b) ∧ Br b (InS 1 (↑s0.length : Int) s0.length ∧ EvF TT 163 [Dat.str (subStr s0 1 (↑s0.length : Int)), Dat.clo 168 []] g' fun out g' => Outc (fun x => Qf (Out.panic x) g') (fun v => ∃ n, v = Val.d (Dat.int IntKind.i64 n) ∧ InS 0 (IntKind.i64.wrap (1 + n)) s0.length ∧ EvF TT 169 [Dat.str (subStr s0 0 (IntKind.i64.wrap (1 + n)))] g' fun out g' => Outc (fun x => Qf (Out.panic x) g') (fun v => ∃ x, HasTy TT 43 x ∧ ∃ n_1, RetT v [x, Dat.int IntKind.i64 n_1] ∧ Qf (Out.val (Val.tuple [Val.d (Dat.agg [Dat.int IntKind.i64 (intOf (fld x 0)), Dat.str (strOf (fld x 1)), Dat.int IntKind.i64 (intOf (fld x 2)), Dat.int IntKind.i64 (intOf (fld x 3))]), Val.d (Dat.int IntKind.i64 (IntKind.i64.wrap (1 + n))), Val.d (Dat.int IntKind.i64 n_1)])) g') out) out) (EvF TT 170 [] g' fun out g' => Outc (fun x => Qf (Out.panic x) g') (fun v => ∃ x, HasTy TT 61 x ∧ RetV v x ∧ L97_17 s0 x (↑(elsOf x).length : Int) 0 (Dat.agg [Dat.int IntKind.i64 0, Dat.str [], Dat.int IntKind.i64 0, Dat.int IntKind.i64 0]) g' Qf) out)) out))) out)
                                          (Br (IntKind.i32.wrap (byteAt s0 0) == 126) (InS 1 (↑s0.length : Int) s0.length ∧ EvF TT 163 [Dat.str (subStr s0 1 (↑s0.length : Int)), Dat.clo 168 []] g' fun out g' => Outc (fun x => Qf (Out.panic x) g') (fun v => ∃ n, v = Val.d (Dat.int IntKind.i64 n) ∧ InS 0 (IntKind.i64.wrap (1 + n)) s0.length ∧ EvF TT 169 [Dat.str (subStr s0 0 (IntKind.i64.wrap (1 + n)))] g' fun out g' => Outc (fun x => Qf (Out.panic x) g') (fun v => ∃ x, HasTy TT 43 x ∧ ∃ n_1, RetT v [x, Dat.int IntKind.i64 n_1] ∧ Qf (Out.val (Val.tuple [Val.d (Dat.agg [Dat.int IntKind.i64 (intOf (fld x 0)), Dat.str (strOf (fld x 1)), Dat.int IntKind.i64 (intOf (fld x 2)), Dat.int IntKind.i64 (intOf (fld x 3))]), Val.d (Dat.int IntKind.i64 (IntKind.i64.wrap (1 + n))), Val.d (Dat.int IntKind.i64 n_1)])) g') out) out) (EvF TT 168 [Dat.int IntKind.i32 (IntKind.i32.wrap (byteAt s0 0))] g' fun out g' => Outc (fun x => Qf (Out.panic x) g') (fun v => ∃ b, v = Val.d (Dat.bool b) ∧ Br b (InS 1 (↑s0.length : Int) s0.length ∧ EvF TT 163 [Dat.str (subStr s0 1 (↑s0.length : Int)), Dat.clo 168 []] g' fun out g' => Outc (fun x => Qf (Out.panic x) g') (fun v => ∃ n, v = Val.d (Dat.int IntKind.i64 n) ∧ InS 0 (IntKind.i64.wrap (1 + n)) s0.length ∧ EvF TT 169 [Dat.str (subStr s0 0 (IntKind.i64.wrap (1 + n)))] g' fun out g' => Outc (fun x => Qf (Out.panic x) g') (fun v => ∃ x, HasTy TT 43 x ∧ ∃ n_1, RetT v [x, Dat.int IntKind.i64 n_1] ∧ Qf (Out.val (Val.tuple [Val.d (Dat.agg [Dat.int IntKind.i64 (intOf (fld x 0)), Dat.str (strOf (fld x 1)), Dat.int IntKind.i64 (intOf (fld x 2)), Dat.int IntKind.i64 (intOf (fld x 3))]), Val.d (Dat.int IntKind.i64 (IntKind.i64.wrap (1 + n))), Val.d (Dat.int IntKind.i64 n_1)])) g') out) out) (EvF TT 170 [] g' fun out g' => Outc (fun x => Qf (Out.panic x) g') (fun v => ∃ x, HasTy TT 61 x ∧ RetV v x ∧ L97_17 s0 x (↑(elsOf x).length : Int) 0 (Dat.agg [Dat.int IntKind.i64 0, Dat.str [], Dat.int IntKind.i64 0, Dat.int IntKind.i64 0]) g' Qf) out)) out)))
                                        (Br (IntKind.i32.wrap (byteAt s0 0) == 126) (InS 1 (↑s0.length : Int) s0.length ∧ EvF TT 163 [Dat.str (subStr s0 1 (↑s0.length : Int)), Dat.clo 168 []] g' fun out g' => Outc (fun x => Qf (Out.panic x) g') (fun v => ∃ n, v = Val.d (Dat.int IntKind.i64 n) ∧ InS 0 (IntKind.i64.wrap (1 + n)) s0.length ∧ EvF TT 169 [Dat.str (subStr s0 0 (IntKind.i64.wrap (1 + n)))] g' fun out g' => Outc (fun x => Qf (Out.panic x) g') (fun v => ∃ x, HasTy TT 43 x ∧ ∃ n_1, RetT v [x, Dat.int IntKind.i64 n_1] ∧ Qf (Out.val (Val.tuple [Val.d (Dat.agg [Dat.int IntKind.i64 (intOf (fld x 0)), Dat.str (strOf (fld x 1)), Dat.int IntKind.i64 (intOf (fld x 2)), Dat.int IntKind.i64 (intOf (fld x 3))]), Val.d (Dat.int IntKind.i64 (IntKind.i64.wrap (1 + n))), Val.d (Dat.int IntKind.i64 n_1)])) g') out) out) (EvF TT 168 [Dat.int IntKind.i32 (IntKind.i32.wrap (byteAt s0 0))] g' fun out g' => Outc (fun x => Qf (Out.panic x) g') (fun v => ∃ b, v = Val.d (Dat.bool b) ∧ Br b (InS 1 (↑s0.length : Int) s0.length ∧ EvF TT 163 [Dat.str (subStr s0 1 (↑s0.length : Int)), Dat.clo 168 []] g' fun out g' => Outc (fun x => Qf (Out.panic x) g') (fun v => ∃ n, v = Val.d (Dat.int IntKind.i64 n) ∧ InS 0 (IntKind.i64.wrap (1 + n)) s0.length ∧ EvF TT 169 [Dat.str (subStr s0 0 (IntKind.i64.wrap (1 + n)))] g' fun out g' => Outc (fun x => Qf (Out.panic x) g') (fun v => ∃ x, HasTy TT 43 x ∧ ∃ n_1, RetT v [x, Dat.int IntKind.i64 n_1] ∧ Qf (Out.val (Val.tuple [Val.d (Dat.agg [Dat.int IntKind.i64 (intOf (fld x 0)), Dat.str (strOf (fld x 1)), Dat.int IntKind.i64 (intOf (fld x 2)), Dat.int IntKind.i64 (intOf (fld x 3))]), Val.d (Dat.int IntKind.i64 (IntKind.i64.wrap (1 + n))), Val.d (Dat.int IntKind.i64 n_1)])) g') out) out) (EvF TT 170 [] g' fun out g' => Outc (fun x => Qf (Out.panic x) g') (fun v => ∃ x, HasTy TT 61 x ∧ RetV v x ∧ L97_17 s0 x (↑(elsOf x).length : Int) 0 (Dat.agg [Dat.int IntKind.i64 0, Dat.str [], Dat.int IntKind.i64 0, Dat.int IntKind.i64 0]) g' Qf) out)) out))))
                              out))
                  out)
        out) :
    EvF TT 97 [.str s0] g Qf :=
  sx_fun (rk := rk) (fn := Tryz.f97) (loops := lo97) (joins := []) (n := 100000) (args := [(9, .str s0)]) rfl rfl rfl rfl ⟨tyStr rfl h0, trivial⟩ (by kernel_rfl) h
theorem w97_17 {s0 : List UInt8} {x94 : Dat} {n95 : Int} {n96 : Int} {y2 : Dat} {g : Glob} {Qf : Out → Glob → Prop} 
    (h : Br (decide (n96 < n95)) (InB n96 (elsOf x94).length ∧ EvF TT 171 [Dat.str s0, Dat.str (strOf (fld (getE (elsOf x94) n96) 0))] g fun out g' => Outc (fun x => Qf (Out.panic x) g') (fun v => ∃ b, v = Val.d (Dat.bool b) ∧ Br b (Qf (Out.val (Val.tuple [Val.d (Dat.agg [Dat.int IntKind.i64 (intOf (Dat.int IntKind.i64 6)), Dat.str (strOf (Dat.str (strOf (fld (getE (elsOf x94) n96) 0)))), Dat.int IntKind.i64 (intOf (Dat.int IntKind.i64 0)), Dat.int IntKind.i64 (intOf (Dat.int IntKind.i64 0))]), Val.d (Dat.int IntKind.i64 (↑(strOf (fld (getE (elsOf x94) n96) 0)).length : Int)), Val.d (Dat.int IntKind.i64 0)])) g') (L97_17 s0 x94 n95 (IntKind.i64.wrap (n96 + 1)) y2 g' Qf)) out) (Qf (Out.val (Val.tuple [Val.d (Dat.agg [Dat.int IntKind.i64 0, Dat.str [], Dat.int IntKind.i64 0, Dat.int IntKind.i64 0]), Val.d (Dat.int IntKind.i64 0), Val.d (Dat.int IntKind.i64 110)])) g)) :
    L97_17 s0 x94 n95 n96 y2 g Qf := sx_cut (rk := rk) (loops := lo97) (joins := []) (n := 100000) (by kernel_rfl) h
/-! f221 athanor/lex.spelt -/
def lo221 : List CutI := []
theorem w221 {x0 : Dat} {g : Glob} {Qf : Out → Glob → Prop} (h0 : HasTy TT 43 x0)
    (h : Br (intOf (fld x0 0) == 3) ((1 + (strOf (fld x0 1)).length).le 1099511627776 ∧ Br (decide (33 < (↑(39 :: (strOf (fld x0 1))).length : Int))) (Qf (Out.val (Val.tuple [Val.d (Dat.str []), Val.d (Dat.bool false)])) g) (EvF TT 97 [Dat.str (39 :: (strOf (fld x0 1)))] g fun out g' => Outc (fun x => Qf (Out.panic x) g') (fun v => ∃ x, HasTy TT 43 x ∧ ∃ n n_1, RetT v [x, Dat.int IntKind.i64 n, Dat.int IntKind.i64 n_1] ∧ Br (n_1 == 0) (Br (n == (↑(39 :: (strOf (fld x0 1))).length : Int)) (Qf (Out.val (Val.tuple [Val.d (Dat.str (39 :: (strOf (fld x0 1)))), Val.d (Dat.bool (intOf (fld x 0) == intOf (Dat.int IntKind.i64 (intOf (fld x0 0))) && (strOf (fld x 1) == strOf (Dat.str (strOf (fld x0 1))) && (intOf (fld x 2) == intOf (Dat.int IntKind.i64 (intOf (fld x0 2))) && (intOf (fld x 3) == intOf (Dat.int IntKind.i64 0) && true)))))])) g') (Qf (Out.val (Val.tuple [Val.d (Dat.str (39 :: (strOf (fld x0 1)))), Val.d (Dat.bool false)])) g')) (Qf (Out.val (Val.tuple [Val.d (Dat.str (39 :: (strOf (fld x0 1)))), Val.d (Dat.bool false)])) g')) out))
  (Br (intOf (fld x0 0) == 4) (EvF TT 234 [Dat.int IntKind.i64 (intOf (fld x0 2))] g fun out g' => Outc (fun x => Qf (Out.panic x) g') (fun v => ∃ s, s.length.le 1099511627776 ∧ v = Val.d (Dat.str s) ∧ Br (decide (intOf (fld x0 2) < 0)) (InS 1 (↑s.length : Int) s.length ∧ (1 + (subStr s 1 (↑s.length : Int)).length).le 1099511627776 ∧ Br (decide (33 < (↑(126 :: (subStr s 1 (↑s.length : Int))).length : Int))) (Qf (Out.val (Val.tuple [Val.d (Dat.str []), Val.d (Dat.bool false)])) g') (EvF TT 97 [Dat.str (126 :: (subStr s 1 (↑s.length : Int)))] g' fun out g' => Outc (fun x => Qf (Out.panic x) g') (fun v => ∃ x, HasTy TT 43 x ∧ ∃ n n_1, RetT v [x, Dat.int IntKind.i64 n, Dat.int IntKind.i64 n_1] ∧ Br (n_1 == 0) (Br (n == (↑(126 :: (subStr s 1 (↑s.length : Int))).length : Int)) (Qf (Out.val (Val.tuple [Val.d (Dat.str (126 :: (subStr s 1 (↑s.length : Int)))), Val.d (Dat.bool (intOf (fld x 0) == intOf (Dat.int IntKind.i64 (intOf (fld x0 0))) && (strOf (fld x 1) == strOf (Dat.str (strOf (fld x0 1))) && (intOf (fld x 2) == intOf (Dat.int IntKind.i64 (intOf (fld x0 2))) && (intOf (fld x 3) == intOf (Dat.int IntKind.i64 0) && true)))))])) g') (Qf (Out.val (Val.tuple [Val.d (Dat.str (126 :: (subStr s 1 (↑s.length : Int)))), Val.d (Dat.bool false)])) g')) (Qf (Out.val (Val.tuple [Val.d (Dat.str (126 :: (subStr s 1 (↑s.length : Int)))), Val.d (Dat.bool false)])) g')) out)) (Br (s == []) (Qf (Out.val (Val.tuple [Val.d (Dat.str []), Val.d (Dat.bool false)])) g') (Br (decide (33 < (↑s.length : Int))) (Qf (Out.val (Val.tuple [Val.d (Dat.str []), Val.d (Dat.bool false)])) g') (EvF TT 97 [Dat.str s] g' fun out g' => Outc (fun x => Qf (Out.panic x) g') (fun v => ∃ x, HasTy TT 43 x ∧ ∃ n n_1, RetT v [x, Dat.int IntKind.i64 n, Dat.int IntKind.i64 n_1] ∧ Br (n_1 == 0) (Br (n == (↑s.length : Int)) (Qf (Out.val (Val.tuple [Val.d (Dat.str s), Val.d (Dat.bool (intOf (fld x 0) == intOf (Dat.int IntKind.i64 (intOf (fld x0 0))) && (strOf (fld x 1) == strOf (Dat.str (strOf (fld x0 1))) && (intOf (fld x 2) == intOf (Dat.int IntKind.i64 (intOf (fld x0 2))) && (intOf (fld x 3) == intOf (Dat.int IntKind.i64 0) && true)))))])) g') (Qf (Out.val (Val.tuple [Val.d (Dat.str s), Val.d (Dat.bool false)])) g')) (Qf (Out.val (Val.tuple [Val.d (Dat.str s), Val.d (Dat.bool false)])) g')) out)))) out) (Br (strOf (fld x0 1) == []) (Qf (Out.val (Val.tuple [Val.d (Dat.str []), Val.d (Dat.bool false)])) g) (Br (decide (33 < (↑(strOf (fld x0 1)).length : Int))) (Qf (Out.val (Val.tuple [Val.d (Dat.str []), Val.d (Dat.bool false)])) g) (EvF TT 97 [Dat.str (strOf (fld x0 1))] g fun out g' => Outc (fun x => Qf (Out.panic x) g') (fun v => ∃ x, HasTy TT 43 x ∧ ∃ n n_1, RetT v [x, Dat.int IntKind.i64 n, Dat.int IntKind.i64 n_1] ∧ Br (n_1 == 0) (Br (n == (↑(strOf (fld x0 1)).length : Int)) (Qf (Out.val (Val.tuple [Val.d (Dat.str (strOf (fld x0 1))), Val.d (Dat.bool (intOf (fld x 0) == intOf (Dat.int IntKind.i64 (intOf (fld x0 0))) && (strOf (fld x 1) == strOf (Dat.str (strOf (fld x0 1))) && (intOf (fld x 2) == intOf (Dat.int IntKind.i64 (intOf (fld x0 2))) && (intOf (fld x 3) == intOf (Dat.int IntKind.i64 0) && true)))))])) g') (Qf (Out.val (Val.tuple [Val.d (Dat.str (strOf (fld x0 1))), Val.d (Dat.bool false)])) g')) (Qf (Out.val (Val.tuple [Val.d (Dat.str (strOf (fld x0 1))), Val.d (Dat.bool false)])) g')) out))))) :
    EvF TT 221 [x0] g Qf :=
  sx_fun (rk := rk) (fn := Tryz.f221) (loops := lo221) (joins := []) (n := 100000) (args := [(43, x0)]) rfl rfl rfl rfl ⟨h0, trivial⟩ (by kernel_rfl) h
/-! f222 strings.Join -/
def L222_12 (x0 : Dat) (s1 : List UInt8) (n5 : Int) (x39 : Dat) (n40 : Int) (n41 : Int) (g : Glob) (Qf : Out → Glob → Prop) : Prop := CutP TT Tryz.f222 [1, 1, 1, 1, 0, 1, 0] Qf (mkC TT 222 Tryz.f222 2 [(0, .v 61 (x0)), (1, .v 9 (.str s1)), (5, .v 3 (.int .i64 n5)), (39, .v 61 (x39)), (40, .v 3 (.int .i64 n40)), (41, .v 3 (.int .i64 n41))] [] g)
def L222_22 (s1 : List UInt8) (p8 : Nat) (x63 : Dat) (n64 : Int) (n65 : Int) (g : Glob) (Qf : Out → Glob → Prop) : Prop := CutP TT Tryz.f222 [1, 1, 1, 1, 1, 1, 1, 1, 0, 1, 0] Qf (mkC TT 222 Tryz.f222 2 [(1, .v 9 (.str s1)), (8, .v 0 (.ptr (some (p8, 0)))), (63, .v 61 (x63)), (64, .v 3 (.int .i64 n64)), (65, .v 3 (.int .i64 n65))] [] g)
def lo222 : List CutI := [⟨12, [(0, .keep), (1, .keep), (5, .keep), (39, .keep), (40, .keep), (41, .keep)], []⟩, ⟨22, [(1, .keep), (8, .keep), (63, .keep), (64, .keep), (65, .keep)], []⟩]
theorem w222 {x0 : Dat} {s1 : List UInt8} {g : Glob} {Qf : Out → Glob → Prop} (h0 : HasTy TT 61 x0) (h1 : s1.length ≤ 2 ^ 40)
    (h : Br ((↑(elsOf x0).length : Int) == 0) (Qf (Out.val (Val.d (Dat.str []))) g) (Br ((↑(elsOf x0).length : Int) == 1) (InB 0 (elsOf x0).length ∧ Qf (Out.val (Val.d (Dat.str (strOf (fld (getE (elsOf x0) 0) 0))))) g) (Br (decide (0 < (↑s1.length : Int))) (NeZ (IntKind.i64.wrap ((↑(elsOf x0).length : Int) - 1)) ∧ Br (decide (IntKind.i64.wrap (Int.tdiv 9223372036854775807 (IntKind.i64.wrap ((↑(elsOf x0).length : Int) - 1))) ≤ (↑s1.length : Int))) (Qf (Out.panic (Dat.iface 9 (Dat.str [115, 116, 114, 105, 110, 103, 115, 58, 32, 74, 111, 105, 110, 32, 111, 117, 116, 112, 117, 116, 32, 108, 101, 110, 103, 116, 104, 32, 111, 118, 101, 114, 102, 108, 111, 119]))) g) (L222_12 x0 s1 (IntKind.i64.wrap (0 + IntKind.i64.wrap ((↑s1.length : Int) * IntKind.i64.wrap ((↑(elsOf x0).length : Int) - 1)))) x0 (↑(elsOf x0).length : Int) 0 g Qf)) (L222_12 x0 s1 0 x0 (↑(elsOf x0).length : Int) 0 g Qf)))) :
    EvF TT 222 [x0, .str s1] g Qf :=
  sx_fun (rk := rk) (fn := Tryz.f222) (loops := lo222) (joins := []) (n := 100000) (args := [(61, x0), (9, .str s1)]) rfl rfl rfl rfl ⟨h0, tyStr rfl h1, trivial⟩ (by kernel_rfl) h
theorem w222_12 {x0 : Dat} {s1 : List UInt8} {n5 : Int} {x39 : Dat} {n40 : Int} {n41 : Int} {g : Glob} {Qf : Out → Glob → Prop} 
    (h : Br (decide (n41 < n40)) (InB n41 (elsOf x39).length ∧ Br (decide (IntKind.i64.wrap (9223372036854775807 - n5) < (↑(strOf (fld (getE (elsOf x39) n41) 0)).length : Int))) (Qf (Out.panic (Dat.iface 9 (Dat.str [115, 116, 114, 105, 110, 103, 115, 58, 32, 74, 111, 105, 110, 32, 111, 117, 116, 112, 117, 116, 32, 108, 101, 110, 103, 116, 104, 32, 111, 118, 101, 114, 102, 108, 111, 119]))) g) (L222_12 x0 s1 (IntKind.i64.wrap (n5 + (↑(strOf (fld (getE (elsOf x39) n41) 0)).length : Int))) x39 n40 (IntKind.i64.wrap (n41 + 1)) g Qf)) False) :
    L222_12 x0 s1 n5 x39 n40 n41 g Qf := sx_cut (rk := rk) (loops := lo222) (joins := []) (n := 100000) (by kernel_rfl) h
theorem w222_22 {s1 : List UInt8} {p8 : Nat} {x63 : Dat} {n64 : Int} {n65 : Int} {g : Glob} {Qf : Out → Glob → Prop} 
    (h : Br (decide (n65 < n64)) (InB n65 (elsOf x63).length ∧ EvF TT 236 [Dat.ptr (some (p8, 0)), Dat.str s1] g fun out g' => Outc (fun x => Qf (Out.panic x) g') (fun v => ∃ n x, HasTy TT 199 x ∧ RetT v [Dat.int IntKind.i64 n, x] ∧ EvF TT 236 [Dat.ptr (some (p8, 0)), Dat.str (strOf (fld (getE (elsOf x63) n65) 0))] g' fun out g' => Outc (fun x => Qf (Out.panic x) g') (fun v => ∃ n x, HasTy TT 199 x ∧ RetT v [Dat.int IntKind.i64 n, x] ∧ L222_22 s1 p8 x63 n64 (IntKind.i64.wrap (n65 + 1)) g' Qf) out) out) (EvF TT 237 [Dat.ptr (some (p8, 0))] g fun out g' => Outc (fun x => Qf (Out.panic x) g') (fun v => ∃ s, s.length.le 1099511627776 ∧ v = Val.d (Dat.str s) ∧ Qf (Out.val (Val.d (Dat.str s))) g') out)) :
    L222_22 s1 p8 x63 n64 n65 g Qf := sx_cut (rk := rk) (loops := lo222) (joins := []) (n := 100000) (by kernel_rfl) h
/-! f200 athanor/lex.Text -/
def L200_5 (l4 : List Dat) (x13 : Dat) (n14 : Int) (n15 : Int) (g : Glob) (Qf : Out → Glob → Prop) : Prop := CutP TT Tryz.f200 [1, 1, 1, 0, 1, 0] Qf (mkC TT 200 Tryz.f200 1 [(4, .acc [(29, 0)] 61 1 l4), (13, .v 37 (x13)), (14, .v 3 (.int .i64 n14)), (15, .v 3 (.int .i64 n15))] [] g)
def lo200 : List CutI := [⟨5, [(4, .acc [29]), (13, .keep), (14, .keep), (15, .keep)], []⟩]
theorem w200 {x0 : Dat} {g : Glob} {Qf : Out → Glob → Prop} (h0 : HasTy TT 37 x0)
    (h : Br (decide (4096 < (↑(elsOf x0).length : Int))) (Qf (Out.val (Val.tuple [Val.d (Dat.str []), Val.d (Dat.int IntKind.i64 3)])) g) (L200_5 [] x0 (↑(elsOf x0).length : Int) 0 g Qf)) :
    EvF TT 200 [x0] g Qf :=
  sx_fun (rk := rk) (fn := Tryz.f200) (loops := lo200) (joins := []) (n := 100000) (args := [(37, x0)]) rfl rfl rfl rfl ⟨h0, trivial⟩ (by kernel_rfl) h
theorem w200_5 {l4 : List Dat} {x13 : Dat} {n14 : Int} {n15 : Int} {g : Glob} {Qf : Out → Glob → Prop} 
    (h : Br (decide (n15 < n14)) (InB n15 (elsOf x13).length ∧ EvF TT 221 [getE (elsOf x13) n15] g fun out g' => Outc (fun x => Qf (Out.panic x) g') (fun v => ∃ s, s.length.le 1099511627776 ∧ ∃ b, RetT v [Dat.str s, Dat.bool b] ∧ Br (!b) (Qf (Out.val (Val.tuple [Val.d (Dat.str []), Val.d (Dat.int IntKind.i64 1)])) g') (Fits (l4.length + [Dat.str s].length) 16 ∧ L200_5 (l4 ++ [Dat.str s]) x13 n14 (IntKind.i64.wrap (n15 + 1)) g' Qf)) out) (EvF TT 222 [slOf 1 l4, Dat.str [32]] g fun out g' => Outc (fun x => Qf (Out.panic x) g') (fun v => ∃ s, s.length.le 1099511627776 ∧ v = Val.d (Dat.str s) ∧ Br (decide (8192 < (↑s.length : Int))) (Qf (Out.val (Val.tuple [Val.d (Dat.str []), Val.d (Dat.int IntKind.i64 2)])) g') (Qf (Out.val (Val.tuple [Val.d (Dat.str s), Val.d (Dat.int IntKind.i64 0)])) g')) out)) :
    L200_5 l4 x13 n14 n15 g Qf := sx_cut (rk := rk) (loops := lo200) (joins := []) (n := 100000) (by kernel_rfl) h
/-! f136 athanor/parse.word -/
def lo136 : List CutI := []
theorem w136 {n0 : Int} {s1 : List UInt8} {g : Glob} {Qf : Out → Glob → Prop} (h1 : s1.length ≤ 2 ^ 40)
    (h : EvF TT 200 [Dat.sl 4 [Dat.agg [Dat.int IntKind.i64 n0, Dat.str s1, Dat.int IntKind.i64 0, Dat.int IntKind.i64 0]]] g fun out g' => Outc (fun x => Qf (Out.panic x) g') (fun v => ∃ s, s.length.le 1099511627776 ∧ ∃ n, RetT v [Dat.str s, Dat.int IntKind.i64 n] ∧ Qf (Out.val (Val.d (Dat.bool (n == 0)))) g') out) :
    EvF TT 136 [.int .i64 n0, .str s1] g Qf :=
  sx_fun (rk := rk) (fn := Tryz.f136) (loops := lo136) (joins := []) (n := 100000) (args := [(3, .int .i64 n0), (9, .str s1)]) rfl rfl rfl rfl ⟨tyInt rfl, tyStr rfl h1, trivial⟩ (by kernel_rfl) h
end Go.Proofs.YtgmapdcdmomioaaGreatDoor.Pa
