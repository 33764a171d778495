/- More fuel: the law's walk. -/
import Derived.Test.YtjcgoohmhbgkiaaProg
import Derived.Test.YtjcgoohmhbgkiaaFuelP
import Derived.Test.YtjcgoohmhbgkiaaWk
import Derived.Test.YtjcgoohmhbgkiaaMA
set_option linter.all false
set_option linter.all false
set_option linter.all false
namespace Go.Proofs.Ytjcgoohmhbgkiaa
open Go.RowKit
set_option maxHeartbeats 400000

set_option maxRecDepth 100000 in
theorem sameRes {M : Mp} {e : Int} {w1 w2 s1 s2 : Value} {lw ls : List Int} (h1 : RInts M w1 lw) (h2 : RInts M w2 lw) (k1 : RInts M s1 ls) (k2 : RInts M s2 ls) (w : World) (hm : Ag M w) :
    Calls Try.prog 11 #[.agg #[.int .i64 e, w1, s1], .agg #[.int .i64 e, w2, s2]] w fun en w' => en = .returned (.bool true) ∧ Below w.heap.size w w' := by
  have HW := Lib.hid (fun (wx : World) (hb : Below w.heap.size w wx) => kSame h1 h2 wx (hm.later hb))
  have HS := Lib.hid (fun (wx : World) (hb : Below w.heap.size w wx) => kSame k1 k2 wx (hm.later hb))
  obtain ⟨a1, n1, c1, rfl⟩ := rints_slice h1
  obtain ⟨a2, n2, c2, rfl⟩ := rints_slice h2
  obtain ⟨a3, n3, c3, rfl⟩ := rints_slice k1
  obtain ⟨a4, n4, c4, rfl⟩ := rints_slice k2
  have hbb := bgo (below_box w (.cells #[.int .i64 e, .slice a1 n1 c1, .slice a3 n3 c3] 30)) (below_box _ (.cells #[.int .i64 e, .slice a2 n2 c2, .slice a4 n4 c4] 30))
  clear h1 h2 k1 k2 hm
  simp only [decide_true] at HW HS
  have hee : (e == e) = true := by simp
  go_enter Try.func11, Try.ntmps11
  go_wp2_with (go_at_call 20; first | (refine (HW.out _ hbb).mono ?_; rintro en w3 ⟨rfl, q, rfl⟩; clear HW) | (refine (HS.out _ (below_drewN hbb _)).mono ?_; rintro en w4 ⟨rfl, q2, rfl⟩))
  go_ret
  exact ⟨rfl, below_drewN hbb _⟩
def YesPost (w : World) (e : Ending) (w' : World) : Prop := e = .returned (.bool true) ∧ Below w.heap.size w w'
set_option maxRecDepth 100000 in
theorem fuel_small {m : Mp} {v pl : Value} {f : Flat} {l : List Int} {a b : Int} (hr : RFlat m v f) (hl : RInts m pl l) (w : World) (hm : Ag m w) (hc : 300 < l.length ∨ a < 0 ∨ b < a ∨ 10000 < b) :
    Calls Try.prog 4 #[.agg #[v, .int .i64 f.main], pl, .agg #[.int .i64 a, .int .i64 b]] w (YesPost w) := by
  have HL := Lib.hid (fun (wx : World) (hb : Below w.heap.size w wx) => large25 hr wx (hm.later hb))
  obtain ⟨fb, fcap, rfl, _⟩ := hr.1.opn
  obtain ⟨ao, cap, rfl, hcap, hln, _⟩ := hl.open hm
  have hbb := bgo (below_box w (.cells #[.slice fb f.funs.length fcap, .int .i64 f.main] 24)) (below_box _ (.cells #[.int .i64 a, .int .i64 b] 42))
  clear hr hl hm
  by_cases h1 : 300 < l.length
  · clear hc
    go_enter Try.func4, Try.ntmps4
    go_wp2_with fail
    go_quiet (fail)
    go_wp2_with (first | (go_at_call 6; refine (HL.out _ (below_drewN hbb _)).mono ?_; rintro e w1 ⟨r, rfl, hb1⟩; have hb1' := bgo (below_drewN hbb _) hb1; cases r) | (go_at_call 7; refine (wakes _).mono ?_; rintro e w2 ⟨rfl, hb2⟩))
    all_goals go_ret
    all_goals exact ⟨rfl, bgo hb1' hb2⟩
  by_cases h2 : a < 0
  · clear hc
    go_enter Try.func4, Try.ntmps4
    go_wp2_with fail
    go_quiet (fail)
    go_wp2_with (first | (go_at_call 6; refine (HL.out _ (below_drewN hbb _)).mono ?_; rintro e w1 ⟨r, rfl, hb1⟩; have hb1' := bgo (below_drewN hbb _) hb1; cases r) | (go_at_call 7; refine (wakes _).mono ?_; rintro e w2 ⟨rfl, hb2⟩))
    all_goals go_ret
    all_goals exact ⟨rfl, bgo hb1' hb2⟩
  by_cases h3 : b < a
  · clear hc
    go_enter Try.func4, Try.ntmps4
    go_wp2_with fail
    go_quiet (fail)
    go_wp2_with (first | (go_at_call 6; refine (HL.out _ (below_drewN hbb _)).mono ?_; rintro e w1 ⟨r, rfl, hb1⟩; have hb1' := bgo (below_drewN hbb _) hb1; cases r) | (go_at_call 7; refine (wakes _).mono ?_; rintro e w2 ⟨rfl, hb2⟩))
    all_goals go_ret
    all_goals exact ⟨rfl, bgo hb1' hb2⟩
  have h4 : 10000 < b := by omega
  clear hc
  go_enter Try.func4, Try.ntmps4
  go_wp2_with fail
  go_quiet (fail)
  go_wp2_with (first | (go_at_call 6; refine (HL.out _ (below_drewN hbb _)).mono ?_; rintro e w1 ⟨r, rfl, hb1⟩; have hb1' := bgo (below_drewN hbb _) hb1; cases r) | (go_at_call 7; refine (wakes _).mono ?_; rintro e w2 ⟨rfl, hb2⟩))
  all_goals go_ret
  all_goals exact ⟨rfl, bgo hb1' hb2⟩
theorem flRunA {A : Out} {m : Mp} {v : Value} {f : Flat} (hr : RFlat m v f) {pl : Value} {l : List Int} {fuel : Int} (hA : runF f l fuel = A) (w : World) (hm : Ag m w) (hl : RInts m pl l) :
    Calls Try.prog 9 #[.agg #[v, .int .i64 f.main], pl, .int .i64 fuel] w (RunTold A w) := by subst hA; exact flRun hr fuel w hm hl
theorem flMadeA {A : Out} {m : Mp} {v : Value} {f : Flat} (hr : RFlat m v f) {pl : Value} {l : List Int} {fuel : Int} (hA : runF f l fuel = A) (w : World) (hm : Ag m w) (hl : RInts m pl l) :
    Calls Try.prog 14 #[.agg #[v, .int .i64 f.main], pl, .int .i64 fuel] w (fun e w' => e = .returned (.int .i64 A.made) ∧ Below w.heap.size w w') := by subst hA; exact flMade hr fuel w hm hl
theorem RFlat.mono {m m' : Mp} (h : ∀ a v, m a = some v → m' a = some v) {v : Value} {f : Flat} (hr : RFlat m v f) : RFlat m' v f := ⟨hr.1.mono h, hr.2⟩
theorem wpList_append0 {P : Program} {w : World} {ops : Array Oper} {rest : List Oper} {o : Oper} {act : Act} {Q : Exit → Act → World → Prop} (hgd : o.guard = none)
    (s x : Operand) {t e : TypeId} (hop : o.op = Op.call { callee := Callee.builtin Builtin.append, args := #[s, x], argTypes := #[t, t] })
    {base : Nat} {i : TypeInfo} {z : Value} {size bytes : Nat} (ht : P.underlying t = some (.slice e)) (hi : P.info? e = some i) (hz : i.zero = some z)
    (hsize : i.size = size) (hby : i.bytes = bytes) (hzs : z.cells.size = size) (hsz : 0 < size) {g : Nat} (hs : act.eval s = .slice (some ⟨g, 0, none⟩) 0 0) (hown : w.heap[g]? = some (.cells #[] e (0, 0))) (hg : base ≤ g)
    {sv : Value} {m : Nat} {news : List Value} (hx : act.eval x = sv) (hl : news.length = m * size) (hnews : SrcAt w sv m news) (h1 : ∀ u ∈ news, u.oneCell' = true) (h63 : m ≤ maxLen) (hbytes : m * bytes ≤ 140737488355328) (hbase : base ≤ w.heap.size)
    (hK : ∀ v' w', w'.ownsRow base e size v' m news → Below w.heap.size w w' → wpList P ops Q rest (act.put o.dst v') w') : wpList P ops Q (o :: rest) act w :=
  wpList_plain hgd fun _ hK' => wp_append0 s x hop ht hi hz hsize hby hzs hsz hs hown hg hx hl hnews h1 h63 hbytes hbase (fun v' w' h hb => hK' _ _ (hK v' w' h hb))
/-- What stands while the law is asked: the flat program's box. -/
structure FuAt (w : World) (v0 v1 : Value) (wx : World) : Prop where
  bel : Below w.heap.size w wx
  c0 : wx.cell? ⟨w.heap.size, 0, none⟩ = some v0
  c1 : wx.cell? ⟨w.heap.size, 1, none⟩ = some v1
theorem FuAt.lt {w wx : World} {v0 v1 : Value} (h : FuAt w v0 v1 wx) : w.heap.size < wx.heap.size := World.block_lt_of_cell? _ _ h.c0
theorem FuAt.next {w wx wy : World} {v0 v1 : Value} (h : FuAt w v0 v1 wx) (hb : Below wx.heap.size wx wy) : FuAt w v0 v1 wy := ⟨bgo h.bel hb, (hb.cell h.lt).trans h.c0, (hb.cell h.lt).trans h.c1⟩
/-- What the append of the input to nothing leaves. -/
theorem input_new {m : Mp} {pl : Value} {l : List Int} {w w2 w3 : World} {v3 : Value} (hl : RInts m pl l) (hln : l.length ≤ 140737488355328) (h2 : w.heap.size ≤ w2.heap.size) (ho : w3.ownsRow w2.heap.size 3 1 v3 l.length (l.map (.int .i64))) : RInts (newM w w3) v3 l := rints_of ho hl.2 hln h2
end Go.Proofs.Ytjcgoohmhbgkiaa
