/- What a term's kind has: the program's own test, kind by kind. What a term's kind has: the program's own test, kind by kind. What a term's kind has: the program's own test, kind by kind. What a term's kind has: the program's own test, kind by kind. What a term's kind has: the program's own test, kind by kind. What a term's kind has: the program's own test, kind by kind. -/
import Derived.Test.YtimljadlfhccpaaProg
import Derived.Test.YtimljadlfhccpaaMB
set_option linter.all false
set_option linter.all false
set_option linter.all false
set_option linter.all false
namespace Go.Proofs.Ytimljadlfhccpaa
open Go.RowKit
set_option maxHeartbeats 4000000

set_option maxRecDepth 100000 in
theorem formed_1 {m : Mp} {t : Term} {tb tcap ab acap fb fcap nb ncap} (O : Opn m t tb tcap ab acap fb fcap nb ncap) (k1 : t.kind = 1) (kb : Nat) (Fb : Option Addr) (nf Fc : Nat) (main : Int) (w : World) (hm : Ag m w) (hkb : kb < w.heap.size)
    (q0 : w.cell? ⟨kb, 0, none⟩ = some (.slice Fb nf Fc)) (q1 : w.cell? ⟨kb, 1, none⟩ = some (.int .i64 main)) (hnf : nf ≤ 4096) :
    Calls Try.prog 36 #[.pointer (some ⟨kb, 0, none⟩), .agg #[.int .i64 t.kind, .int .i64 t.x, .int .i64 t.n, .bool t.ints, .slice tb t.tags.length tcap, .slice ab t.args.length acap, .slice fb t.funs.length fcap, .slice nb t.next.length ncap]] w fun e w' => e = .returned (.bool (formedB nf main t)) ∧ Below w.heap.size w w' := by
  have HM := Lib.hid hm
  have HT := Lib.hid O
  have t2 := O.tags.len
  have a2 := O.args.len
  have f2 := O.fbd
  have n2 := O.nbd
  have K := Lib.hid k1
  clear hm O
  by_cases h1 : 1 ≤ t.n
  · by_cases h2 : t.n ≤ 7
    · skip
      go_enter Try.func36, Try.ntmps36
      go_wp2_with fail
      go_region
      all_goals go_wp2_with fail
      all_goals go_ret
      all_goals exact ⟨congrArg (fun x => Ending.returned (.bool x)) (by rw [formedB_1 K.out, Bool.eq_iff_iff]; simp_all <;> first | omega | (intros; first | omega | (exfalso; omega)) | (constructor <;> intros <;> simp_all <;> omega)), by repeat (first | exact below_box _ _ | exact Below.refl _ _ | apply Below.drew | apply below_drewN | (refine Below.alloc ?_ (by simp) _) | (refine Below.setCell ?_ (by simp) _))⟩
    · skip
      go_enter Try.func36, Try.ntmps36
      go_wp2_with fail
      go_region
      all_goals go_wp2_with fail
      all_goals go_ret
      all_goals exact ⟨congrArg (fun x => Ending.returned (.bool x)) (by rw [formedB_1 K.out, Bool.eq_iff_iff]; simp_all <;> first | omega | (intros; first | omega | (exfalso; omega)) | (constructor <;> intros <;> simp_all <;> omega)), by repeat (first | exact below_box _ _ | exact Below.refl _ _ | apply Below.drew | apply below_drewN | (refine Below.alloc ?_ (by simp) _) | (refine Below.setCell ?_ (by simp) _))⟩
  · have hd : decide (1 ≤ t.n) = false := by simpa using h1
    go_enter Try.func36, Try.ntmps36
    go_wp2_with fail
    go_region
    all_goals go_wp2_with fail
    all_goals go_ret
    all_goals exact ⟨congrArg (fun x => Ending.returned (.bool x)) (by rw [formedB_1 K.out, Bool.eq_iff_iff]; simp_all <;> first | omega | (intros; first | omega | (exfalso; omega)) | (constructor <;> intros <;> simp_all <;> omega)), by repeat (first | exact below_box _ _ | exact Below.refl _ _ | apply Below.drew | apply below_drewN | (refine Below.alloc ?_ (by simp) _) | (refine Below.setCell ?_ (by simp) _))⟩
end Go.Proofs.Ytimljadlfhccpaa
namespace Go.Proofs.Ytimljadlfhccpaa
open Go.RowKit
set_option maxHeartbeats 4000000

set_option maxRecDepth 100000 in
theorem formed_3 {m : Mp} {t : Term} {tb tcap ab acap fb fcap nb ncap} (O : Opn m t tb tcap ab acap fb fcap nb ncap) (k3 : t.kind = 3) (kb : Nat) (Fb : Option Addr) (nf Fc : Nat) (main : Int) (w : World) (hm : Ag m w) (hkb : kb < w.heap.size)
    (q0 : w.cell? ⟨kb, 0, none⟩ = some (.slice Fb nf Fc)) (q1 : w.cell? ⟨kb, 1, none⟩ = some (.int .i64 main)) (hnf : nf ≤ 4096) :
    Calls Try.prog 36 #[.pointer (some ⟨kb, 0, none⟩), .agg #[.int .i64 t.kind, .int .i64 t.x, .int .i64 t.n, .bool t.ints, .slice tb t.tags.length tcap, .slice ab t.args.length acap, .slice fb t.funs.length fcap, .slice nb t.next.length ncap]] w fun e w' => e = .returned (.bool (formedB nf main t)) ∧ Below w.heap.size w w' := by
  have HM := Lib.hid hm
  have HT := Lib.hid O
  have t2 := O.tags.len
  have a2 := O.args.len
  have f2 := O.fbd
  have n2 := O.nbd
  have K := Lib.hid k3
  clear hm O
  by_cases h1 : 0 ≤ t.n
  · by_cases h2 : t.n < 8
    · skip
      go_enter Try.func36, Try.ntmps36
      go_wp2_with fail
      go_region
      all_goals go_wp2_with fail
      all_goals go_ret
      all_goals exact ⟨congrArg (fun x => Ending.returned (.bool x)) (by rw [formedB_3 K.out, Bool.eq_iff_iff]; simp_all <;> first | omega | (intros; first | omega | (exfalso; omega)) | (constructor <;> intros <;> simp_all <;> omega)), by repeat (first | exact below_box _ _ | exact Below.refl _ _ | apply Below.drew | apply below_drewN | (refine Below.alloc ?_ (by simp) _) | (refine Below.setCell ?_ (by simp) _))⟩
    · skip
      go_enter Try.func36, Try.ntmps36
      go_wp2_with fail
      go_region
      all_goals go_wp2_with fail
      all_goals go_ret
      all_goals exact ⟨congrArg (fun x => Ending.returned (.bool x)) (by rw [formedB_3 K.out, Bool.eq_iff_iff]; simp_all <;> first | omega | (intros; first | omega | (exfalso; omega)) | (constructor <;> intros <;> simp_all <;> omega)), by repeat (first | exact below_box _ _ | exact Below.refl _ _ | apply Below.drew | apply below_drewN | (refine Below.alloc ?_ (by simp) _) | (refine Below.setCell ?_ (by simp) _))⟩
  · have hd : decide (0 ≤ t.n) = false := by simpa using h1
    go_enter Try.func36, Try.ntmps36
    go_wp2_with fail
    go_region
    all_goals go_wp2_with fail
    all_goals go_ret
    all_goals exact ⟨congrArg (fun x => Ending.returned (.bool x)) (by rw [formedB_3 K.out, Bool.eq_iff_iff]; simp_all <;> first | omega | (intros; first | omega | (exfalso; omega)) | (constructor <;> intros <;> simp_all <;> omega)), by repeat (first | exact below_box _ _ | exact Below.refl _ _ | apply Below.drew | apply below_drewN | (refine Below.alloc ?_ (by simp) _) | (refine Below.setCell ?_ (by simp) _))⟩
end Go.Proofs.Ytimljadlfhccpaa
namespace Go.Proofs.Ytimljadlfhccpaa
open Go.RowKit
set_option maxHeartbeats 4000000

set_option maxRecDepth 100000 in
theorem formed_10 {m : Mp} {t : Term} {tb tcap ab acap fb fcap nb ncap} (O : Opn m t tb tcap ab acap fb fcap nb ncap) (k10 : t.kind = 10) (kb : Nat) (Fb : Option Addr) (nf Fc : Nat) (main : Int) (w : World) (hm : Ag m w) (hkb : kb < w.heap.size)
    (q0 : w.cell? ⟨kb, 0, none⟩ = some (.slice Fb nf Fc)) (q1 : w.cell? ⟨kb, 1, none⟩ = some (.int .i64 main)) (hnf : nf ≤ 4096) :
    Calls Try.prog 36 #[.pointer (some ⟨kb, 0, none⟩), .agg #[.int .i64 t.kind, .int .i64 t.x, .int .i64 t.n, .bool t.ints, .slice tb t.tags.length tcap, .slice ab t.args.length acap, .slice fb t.funs.length fcap, .slice nb t.next.length ncap]] w fun e w' => e = .returned (.bool (formedB nf main t)) ∧ Below w.heap.size w w' := by
  have HM := Lib.hid hm
  have HT := Lib.hid O
  have t2 := O.tags.len
  have a2 := O.args.len
  have f2 := O.fbd
  have n2 := O.nbd
  have K := Lib.hid k10
  clear hm O
  by_cases h1 : 0 ≤ t.n
  · by_cases h2 : t.n < 64
    · skip
      go_enter Try.func36, Try.ntmps36
      go_wp2_with fail
      go_region
      all_goals go_wp2_with fail
      all_goals go_ret
      all_goals exact ⟨congrArg (fun x => Ending.returned (.bool x)) (by rw [formedB_10 K.out, Bool.eq_iff_iff]; simp_all <;> first | omega | (intros; first | omega | (exfalso; omega)) | (constructor <;> intros <;> simp_all <;> omega)), by repeat (first | exact below_box _ _ | exact Below.refl _ _ | apply Below.drew | apply below_drewN | (refine Below.alloc ?_ (by simp) _) | (refine Below.setCell ?_ (by simp) _))⟩
    · skip
      go_enter Try.func36, Try.ntmps36
      go_wp2_with fail
      go_region
      all_goals go_wp2_with fail
      all_goals go_ret
      all_goals exact ⟨congrArg (fun x => Ending.returned (.bool x)) (by rw [formedB_10 K.out, Bool.eq_iff_iff]; simp_all <;> first | omega | (intros; first | omega | (exfalso; omega)) | (constructor <;> intros <;> simp_all <;> omega)), by repeat (first | exact below_box _ _ | exact Below.refl _ _ | apply Below.drew | apply below_drewN | (refine Below.alloc ?_ (by simp) _) | (refine Below.setCell ?_ (by simp) _))⟩
  · have hd : decide (0 ≤ t.n) = false := by simpa using h1
    go_enter Try.func36, Try.ntmps36
    go_wp2_with fail
    go_region
    all_goals go_wp2_with fail
    all_goals go_ret
    all_goals exact ⟨congrArg (fun x => Ending.returned (.bool x)) (by rw [formedB_10 K.out, Bool.eq_iff_iff]; simp_all <;> first | omega | (intros; first | omega | (exfalso; omega)) | (constructor <;> intros <;> simp_all <;> omega)), by repeat (first | exact below_box _ _ | exact Below.refl _ _ | apply Below.drew | apply below_drewN | (refine Below.alloc ?_ (by simp) _) | (refine Below.setCell ?_ (by simp) _))⟩
end Go.Proofs.Ytimljadlfhccpaa
namespace Go.Proofs.Ytimljadlfhccpaa
open Go.RowKit
set_option maxHeartbeats 4000000

set_option maxRecDepth 100000 in
theorem formed_2 {m : Mp} {t : Term} {tb tcap ab acap fb fcap nb ncap} (O : Opn m t tb tcap ab acap fb fcap nb ncap) (k2 : t.kind = 2) (kb : Nat) (Fb : Option Addr) (nf Fc : Nat) (main : Int) (w : World) (hm : Ag m w) (hkb : kb < w.heap.size)
    (q0 : w.cell? ⟨kb, 0, none⟩ = some (.slice Fb nf Fc)) (q1 : w.cell? ⟨kb, 1, none⟩ = some (.int .i64 main)) (hnf : nf ≤ 4096) :
    Calls Try.prog 36 #[.pointer (some ⟨kb, 0, none⟩), .agg #[.int .i64 t.kind, .int .i64 t.x, .int .i64 t.n, .bool t.ints, .slice tb t.tags.length tcap, .slice ab t.args.length acap, .slice fb t.funs.length fcap, .slice nb t.next.length ncap]] w fun e w' => e = .returned (.bool (formedB nf main t)) ∧ Below w.heap.size w w' := by
  have HM := Lib.hid hm
  have HT := Lib.hid O
  have t2 := O.tags.len
  have a2 := O.args.len
  have f2 := O.fbd
  have n2 := O.nbd
  have K := Lib.hid k2
  clear hm O
  by_cases h1 : 0 ≤ t.n
  · by_cases h2 : t.n < 32
    · by_cases h3 : t.args.length ≤ 8
      · skip
        go_enter Try.func36, Try.ntmps36
        go_wp2_with fail
        go_region
        all_goals go_wp2_with fail
        all_goals go_ret
        all_goals exact ⟨congrArg (fun x => Ending.returned (.bool x)) (by rw [formedB_2 K.out, Bool.eq_iff_iff]; simp_all <;> first | omega | (intros; first | omega | (exfalso; omega)) | (constructor <;> intros <;> simp_all <;> omega)), by repeat (first | exact below_box _ _ | exact Below.refl _ _ | apply Below.drew | apply below_drewN | (refine Below.alloc ?_ (by simp) _) | (refine Below.setCell ?_ (by simp) _))⟩
      · skip
        go_enter Try.func36, Try.ntmps36
        go_wp2_with fail
        go_region
        all_goals go_wp2_with fail
        all_goals go_ret
        all_goals exact ⟨congrArg (fun x => Ending.returned (.bool x)) (by rw [formedB_2 K.out, Bool.eq_iff_iff]; simp_all <;> first | omega | (intros; first | omega | (exfalso; omega)) | (constructor <;> intros <;> simp_all <;> omega)), by repeat (first | exact below_box _ _ | exact Below.refl _ _ | apply Below.drew | apply below_drewN | (refine Below.alloc ?_ (by simp) _) | (refine Below.setCell ?_ (by simp) _))⟩
    · have hd2 : decide (t.n < 32) = false := by simpa using h2
      go_enter Try.func36, Try.ntmps36
      go_wp2_with fail
      go_region
      all_goals go_wp2_with fail
      all_goals go_ret
      all_goals exact ⟨congrArg (fun x => Ending.returned (.bool x)) (by rw [formedB_2 K.out, Bool.eq_iff_iff]; simp_all <;> first | omega | (intros; first | omega | (exfalso; omega)) | (constructor <;> intros <;> simp_all <;> omega)), by repeat (first | exact below_box _ _ | exact Below.refl _ _ | apply Below.drew | apply below_drewN | (refine Below.alloc ?_ (by simp) _) | (refine Below.setCell ?_ (by simp) _))⟩
  · have hd : decide (0 ≤ t.n) = false := by simpa using h1
    go_enter Try.func36, Try.ntmps36
    go_wp2_with fail
    go_region
    all_goals go_wp2_with fail
    all_goals go_ret
    all_goals exact ⟨congrArg (fun x => Ending.returned (.bool x)) (by rw [formedB_2 K.out, Bool.eq_iff_iff]; simp_all <;> first | omega | (intros; first | omega | (exfalso; omega)) | (constructor <;> intros <;> simp_all <;> omega)), by repeat (first | exact below_box _ _ | exact Below.refl _ _ | apply Below.drew | apply below_drewN | (refine Below.alloc ?_ (by simp) _) | (refine Below.setCell ?_ (by simp) _))⟩
end Go.Proofs.Ytimljadlfhccpaa
namespace Go.Proofs.Ytimljadlfhccpaa
open Go.RowKit
set_option maxHeartbeats 4000000

set_option maxRecDepth 100000 in
theorem formed_7 {m : Mp} {t : Term} {tb tcap ab acap fb fcap nb ncap} (O : Opn m t tb tcap ab acap fb fcap nb ncap) (k7 : t.kind = 7) (kb : Nat) (Fb : Option Addr) (nf Fc : Nat) (main : Int) (w : World) (hm : Ag m w) (hkb : kb < w.heap.size)
    (q0 : w.cell? ⟨kb, 0, none⟩ = some (.slice Fb nf Fc)) (q1 : w.cell? ⟨kb, 1, none⟩ = some (.int .i64 main)) (hnf : nf ≤ 4096) :
    Calls Try.prog 36 #[.pointer (some ⟨kb, 0, none⟩), .agg #[.int .i64 t.kind, .int .i64 t.x, .int .i64 t.n, .bool t.ints, .slice tb t.tags.length tcap, .slice ab t.args.length acap, .slice fb t.funs.length fcap, .slice nb t.next.length ncap]] w fun e w' => e = .returned (.bool (formedB nf main t)) ∧ Below w.heap.size w w' := by
  have HM := Lib.hid hm
  have HT := Lib.hid O
  have t2 := O.tags.len
  have a2 := O.args.len
  have f2 := O.fbd
  have n2 := O.nbd
  have K := Lib.hid k7
  clear hm O
  go_enter Try.func36, Try.ntmps36
  go_wp2_with fail
  all_goals go_ret
  all_goals exact ⟨congrArg (fun x => Ending.returned (.bool x)) (by rw [formedB_7 K.out, Bool.eq_iff_iff]; simp_all <;> first | omega | (intros; first | omega | (exfalso; omega)) | (constructor <;> intros <;> simp_all <;> omega)), by repeat (first | exact below_box _ _ | exact Below.refl _ _ | apply Below.drew | apply below_drewN | (refine Below.alloc ?_ (by simp) _) | (refine Below.setCell ?_ (by simp) _))⟩
set_option maxRecDepth 100000 in
theorem formed_8 {m : Mp} {t : Term} {tb tcap ab acap fb fcap nb ncap} (O : Opn m t tb tcap ab acap fb fcap nb ncap) (k8 : t.kind = 8) (kb : Nat) (Fb : Option Addr) (nf Fc : Nat) (main : Int) (w : World) (hm : Ag m w) (hkb : kb < w.heap.size)
    (q0 : w.cell? ⟨kb, 0, none⟩ = some (.slice Fb nf Fc)) (q1 : w.cell? ⟨kb, 1, none⟩ = some (.int .i64 main)) (hnf : nf ≤ 4096) :
    Calls Try.prog 36 #[.pointer (some ⟨kb, 0, none⟩), .agg #[.int .i64 t.kind, .int .i64 t.x, .int .i64 t.n, .bool t.ints, .slice tb t.tags.length tcap, .slice ab t.args.length acap, .slice fb t.funs.length fcap, .slice nb t.next.length ncap]] w fun e w' => e = .returned (.bool (formedB nf main t)) ∧ Below w.heap.size w w' := by
  have HM := Lib.hid hm
  have HT := Lib.hid O
  have t2 := O.tags.len
  have a2 := O.args.len
  have f2 := O.fbd
  have n2 := O.nbd
  have K := Lib.hid k8
  clear hm O
  go_enter Try.func36, Try.ntmps36
  go_wp2_with fail
  all_goals go_ret
  all_goals exact ⟨congrArg (fun x => Ending.returned (.bool x)) (by rw [formedB_8 K.out, Bool.eq_iff_iff]; simp_all <;> first | omega | (intros; first | omega | (exfalso; omega)) | (constructor <;> intros <;> simp_all <;> omega)), by repeat (first | exact below_box _ _ | exact Below.refl _ _ | apply Below.drew | apply below_drewN | (refine Below.alloc ?_ (by simp) _) | (refine Below.setCell ?_ (by simp) _))⟩
end Go.Proofs.Ytimljadlfhccpaa
namespace Go.Proofs.Ytimljadlfhccpaa
open Go.RowKit
set_option maxHeartbeats 4000000

set_option maxRecDepth 100000 in
theorem formed_5 {m : Mp} {t : Term} {tb tcap ab acap fb fcap nb ncap} (O : Opn m t tb tcap ab acap fb fcap nb ncap) (k5 : t.kind = 5) (kb : Nat) (Fb : Option Addr) (nf Fc : Nat) (main : Int) (w : World) (hm : Ag m w) (hkb : kb < w.heap.size)
    (q0 : w.cell? ⟨kb, 0, none⟩ = some (.slice Fb nf Fc)) (q1 : w.cell? ⟨kb, 1, none⟩ = some (.int .i64 main)) (hnf : nf ≤ 4096) :
    Calls Try.prog 36 #[.pointer (some ⟨kb, 0, none⟩), .agg #[.int .i64 t.kind, .int .i64 t.x, .int .i64 t.n, .bool t.ints, .slice tb t.tags.length tcap, .slice ab t.args.length acap, .slice fb t.funs.length fcap, .slice nb t.next.length ncap]] w fun e w' => e = .returned (.bool (formedB nf main t)) ∧ Below w.heap.size w w' := by
  have HM := Lib.hid hm
  have HT := Lib.hid O
  have t2 := O.tags.len
  have a2 := O.args.len
  have f2 := O.fbd
  have n2 := O.nbd
  have K := Lib.hid k5
  clear hm O
  by_cases h1 : 1 ≤ t.args.length
  · have i1 : (1 : Int) ≤ t.args.length := by omega
    have i2 : decide ((1 : Int) ≤ t.args.length) = true := by simpa using i1
    by_cases h2 : t.args.length ≤ 17
    · skip
      go_enter Try.func36, Try.ntmps36
      go_wp2_with fail
      go_quiet (fail)
      all_goals go_wp2_with fail
      all_goals go_ret
      all_goals exact ⟨congrArg (fun x => Ending.returned (.bool x)) (by rw [formedB_5 K.out, Bool.eq_iff_iff]; simp_all <;> first | omega | (intros; first | omega | (exfalso; omega)) | (constructor <;> intros <;> simp_all <;> omega)), by repeat (first | exact below_box _ _ | exact Below.refl _ _ | apply Below.drew | apply below_drewN | (refine Below.alloc ?_ (by simp) _) | (refine Below.setCell ?_ (by simp) _))⟩
    · skip
      go_enter Try.func36, Try.ntmps36
      go_wp2_with fail
      go_quiet (fail)
      all_goals go_wp2_with fail
      all_goals go_ret
      all_goals exact ⟨congrArg (fun x => Ending.returned (.bool x)) (by rw [formedB_5 K.out, Bool.eq_iff_iff]; simp_all <;> first | omega | (intros; first | omega | (exfalso; omega)) | (constructor <;> intros <;> simp_all <;> omega)), by repeat (first | exact below_box _ _ | exact Below.refl _ _ | apply Below.drew | apply below_drewN | (refine Below.alloc ?_ (by simp) _) | (refine Below.setCell ?_ (by simp) _))⟩
  · have i1 : ¬ (1 : Int) ≤ t.args.length := by omega
    have i2 : decide ((1 : Int) ≤ t.args.length) = false := by simpa using i1
    go_enter Try.func36, Try.ntmps36
    go_wp2_with fail
    go_quiet (fail)
    all_goals go_wp2_with fail
    all_goals go_ret
    all_goals exact ⟨congrArg (fun x => Ending.returned (.bool x)) (by rw [formedB_5 K.out, Bool.eq_iff_iff]; simp_all <;> first | omega | (intros; first | omega | (exfalso; omega)) | (constructor <;> intros <;> simp_all <;> omega)), by repeat (first | exact below_box _ _ | exact Below.refl _ _ | apply Below.drew | apply below_drewN | (refine Below.alloc ?_ (by simp) _) | (refine Below.setCell ?_ (by simp) _))⟩
end Go.Proofs.Ytimljadlfhccpaa
