/- Words: letters, keywords, what the two packages say of them. -/
import Derived.Test.YtgmapdcdmomioaaGreatDoorPwG
import Derived.Test.YtgmapdcdmomioaaGreatDoorPfD
set_option linter.all false
set_option linter.all false
set_option autoImplicit false
set_option maxRecDepth 100000
namespace Go.Proofs.YtgmapdcdmomioaaGreatDoor.Pa
open Go Go.Proofs.YtgmapdcdmomioaaGreatDoor.Am
theorem brQ {c : Bool} {o1 o2 : Out} {g : Glob} {Qf : Out → Glob → Prop} : Br c (Qf o1 g) (Qf o2 g) = Qf (bif c then o1 else o2) g := by cases c <;> rfl
theorem brAnd {a b : Bool} {g : Glob} {Qf : Out → Glob → Prop} : Br a (Qf (.val (.d (.bool b))) g) (Qf (.val (.d (.bool false))) g) = Qf (.val (.d (.bool (a && b)))) g := by cases a <;> rfl
theorem brOr {a b : Bool} {g : Glob} {Qf : Out → Glob → Prop} : Br a (Qf (.val (.d (.bool true))) g) (Qf (.val (.d (.bool b))) g) = Qf (.val (.d (.bool (a || b)))) g := by cases a <;> rfl
theorem brNot {a b : Bool} {g : Glob} {Qf : Out → Glob → Prop} : Br (!a) (Qf (.val (.d (.bool false))) g) (Qf (.val (.d (.bool b))) g) = Qf (.val (.d (.bool (a && b)))) g := by cases a <;> rfl
theorem qcast {a b : Bool} {g : Glob} {Qf : Out → Glob → Prop} (h : Qf (.val (.d (.bool a))) g) (e : a = b) : Qf (.val (.d (.bool b))) g := e ▸ h
def smB (n : Int) : Bool := decide (97 ≤ n) && decide (n ≤ 122)
def cpB (n : Int) : Bool := decide (65 ≤ n) && decide (n ≤ 90)
def dgB (n : Int) : Bool := decide (48 ≤ n) && decide (n ≤ 57)
def ptB (n : Int) : Bool := smB n || (cpB n || (dgB n || n == 95))
def inI (n : Int) : Bool := decide (-1073741824 ≤ n) && decide (n ≤ 1073741823)
def keyL : List Str := [[116, 121, 112, 101], [102, 117, 110], [108, 101, 116], [114, 101, 99], [105, 110], [99, 97, 115, 101], [111, 102], [101, 110, 100], [105, 102], [116, 104, 101, 110], [101, 108, 115, 101], [112, 114, 105, 110, 116]]
def keyB (s : Str) : Bool := keyL.any (fun k => k == s)
def signL : List Str := [[45, 62], [61, 61], [124], [61], [40], [41], [59], [43], [45], [42], [47], [37], [60], [95]]
def wordB (low : Bool) : Str → Bool
  | [] => false
  | c :: r => decide (r.length < 32) && ((bif low then smB c.toNat else cpB c.toNat) && r.all fun c => ptB c.toNat)
def wLow (s : Str) : Bool := wordB true s && !keyB s
def wUp (s : Str) : Bool := wordB false s
def wVar (s : Str) : Bool := wordB true s
section
variable {n : Int} {s : Str} {g : Glob} {Qf : Out → Glob → Prop}
theorem r11small_ok (hQ : Qf (.val (.d (.bool (smB n)))) g) : EvF TT 117 [.int .u8 n] g Qf := w117 (by rw [brAnd]; exact hQ)
theorem r11capital_ok (hQ : Qf (.val (.d (.bool (cpB n)))) g) : EvF TT 118 [.int .u8 n] g Qf := w118 (by rw [brAnd]; exact hQ)
theorem r11digit_ok (hQ : Qf (.val (.d (.bool (dgB n)))) g) : EvF TT 121 [.int .u8 n] g Qf := w121 (by rw [brAnd]; exact hQ)
theorem r11part_ok (hQ : Qf (.val (.d (.bool (ptB n)))) g) : EvF TT 140 [.int .u8 n] g Qf := by
  refine w140 (r11small_ok ⟨_, rfl, Br_iff.2 ⟨fun q => ?_, fun q => r11capital_ok ⟨_, rfl, Br_iff.2 ⟨fun q' => ?_, fun q' => r11digit_ok ⟨_, rfl, ?_⟩⟩⟩⟩⟩)
  · exact qcast hQ (by simp [ptB, q])
  · exact qcast hQ (by simp [ptB, q'])
  · rw [brOr]
    exact qcast hQ (by simp [ptB, q, q'])
theorem lexsmall_ok (hQ : Qf (.val (.d (.bool (smB n)))) g) : EvF TT 165 [.int .i32 n] g Qf := w165 (by rw [brAnd]; exact hQ)
theorem lexgreat_ok (hQ : Qf (.val (.d (.bool (cpB n)))) g) : EvF TT 167 [.int .i32 n] g Qf := w167 (by rw [brAnd]; exact hQ)
theorem lexdigit_ok (hQ : Qf (.val (.d (.bool (dgB n)))) g) : EvF TT 168 [.int .i32 n] g Qf := w168 (by rw [brAnd]; exact hQ)
theorem lexinside_ok (hQ : Qf (.val (.d (.bool (ptB n)))) g) : EvF TT 164 [.int .i32 n] g Qf := by
  refine w164 (lexsmall_ok ⟨_, rfl, Br_iff.2 ⟨fun q => ?_, fun q => lexgreat_ok ⟨_, rfl, Br_iff.2 ⟨fun q' => ?_, fun q' => lexdigit_ok ⟨_, rfl, ?_⟩⟩⟩⟩⟩)
  · exact qcast hQ (by simp [ptB, q])
  · exact qcast hQ (by simp [ptB, q'])
  · rw [brOr]
    exact qcast hQ (by simp [ptB, q, q'])
theorem r10In_ok (hQ : Qf (.val (.d (.bool (inI n)))) g) : EvF TT 124 [.int .i64 n] g Qf := w124 (by rw [brAnd]; exact hQ)
theorem intsIn_ok (hQ : Qf (.val (.d (.bool (inI n)))) g) : EvF TT 195 [.int .i64 n] g Qf := w195 (by
  rw [brAnd]
  refine qcast hQ ?_
  unfold inI
  congr 1
  exact decide_eq_decide.2 (by omega))
theorem byteAt_nat {i : Nat} (h : i < s.length) : byteAt s (i : Int) = ((s[i].toNat : Nat) : Int) := by
  simp [byteAt, List.getElem?_eq_getElem h]
theorem r11Word_ok (low : Bool) (hs : s.length ≤ 2 ^ 40) (hQ : Qf (.val (.d (.bool (wordB low s)))) g) : EvF TT 72 [.str s, .bool low] g Qf := by
  refine w72 hs ?_
  cases s with
  | nil => exact hQ
  | cons c r =>
    rw [List.length_cons] at hs
    refine Br_iff.2 ⟨fun q => ?_, fun _ => Br_iff.2 ⟨fun q => ?_, fun q => ?_⟩⟩
    · have q := of_decide_eq_true q
      rw [List.length_cons] at q
      omega
    · have q := of_decide_eq_true q
      rw [List.length_cons] at q
      exact qcast hQ (by simp only [wordB]; rw [decide_eq_false (by omega), Bool.false_and])
    · have q := of_decide_eq_false q
      rw [List.length_cons] at q
      have hQ : Qf (.val (.d (.bool ((bif low then smB c.toNat else cpB c.toNat) && r.all fun c => ptB c.toNat)))) g := qcast hQ (by simp only [wordB]; rw [decide_eq_true (by omega), Bool.true_and])
      have rest : Qf (.val (.d (.bool (r.all fun c => ptB c.toNat)))) g → L72_4 (c :: r) 1 g Qf := by
        intro hQ
        refine loopUp (len := r.length) (fun i => Qf (.val (.d (.bool ((r.drop i).all fun c => ptB c.toNat)))) g → L72_4 (c :: r) ((i + 1 : Nat) : Int) g Qf) ?_ ?_ 0 (Nat.zero_le _) hQ
        · intro hQ
          refine w72_4 ?_
          rw [List.length_cons, Br_ge]
          rw [List.drop_length] at hQ
          exact hQ
        · intro i hi ih hQ
          refine w72_4 ?_
          have hi' : i + 1 < (c :: r).length := by rw [List.length_cons]; omega
          rw [Br_lt hi', byteAt_nat hi', List.getElem_cons_succ]
          rw [List.drop_eq_getElem_cons hi, List.all_cons] at hQ
          refine ⟨inB hi', r11part_ok ⟨_, rfl, Br_iff.2 ⟨fun q => ?_, fun q => ?_⟩⟩⟩
          · exact qcast hQ (by simp at q; simp [q])
          · rw [wrap_nat (by omega)]
            exact ih (qcast hQ (by simp at q; simp [q]))
      have hb : InB 0 (c :: r).length := inB (i := 0) (by simp)
      have hb0 : byteAt (c :: r) 0 = (c.toNat : Int) := rfl
      rw [hb0]
      cases low with
      | true =>
        refine ⟨hb, r11small_ok ⟨_, rfl, Br_iff.2 ⟨fun q => ?_, fun q => ?_⟩⟩⟩
        · exact qcast hQ (by simp at q; simp [q])
        · exact rest (qcast hQ (by simp at q; simp [q]))
      | false =>
        refine ⟨hb, r11capital_ok ⟨_, rfl, Br_iff.2 ⟨fun q => ?_, fun q => ?_⟩⟩⟩
        · exact qcast hQ (by simp at q; simp [q])
        · exact rest (qcast hQ (by simp at q; simp [q]))
theorem r11among_ok {x : Dat} {l : List Str} (hx : HasTy TT 61 x) (hl : (elsOf x).map strOf = l) (hs : s.length ≤ 2 ^ 40) (hQ : Qf (.val (.d (.bool (l.any fun k => k == s)))) g) : EvF TT 194 [.str s, x] g Qf := by
  have ex := hx.els undStrs
  have exl := len_le undStrs hx
  refine w194 hs hx ?_
  subst hl
  refine loopUp (len := (elsOf x).length) (fun i => Qf (.val (.d (.bool ((((elsOf x).drop i).map strOf).any fun k => k == s)))) g → L194_2 s x (i : Int) g Qf) ?_ ?_ 0 (Nat.zero_le _) hQ
  · intro hQ
    refine w194_2 ?_
    rw [Br_ge]
    rw [List.drop_length] at hQ
    exact hQ
  · intro i hi ih hQ
    refine w194_2 ?_
    rw [Br_lt hi, getE_nat hi]
    obtain ⟨t1, d1, _⟩ := str_ty (ex.2 _ (List.getElem_mem hi))
    rw [List.drop_eq_getElem_cons hi, List.map_cons, List.any_cons] at hQ
    rw [d1] at hQ ⊢
    refine ⟨inB hi, Br_iff.2 ⟨fun q => ?_, fun q => ?_⟩⟩
    all_goals simp [fld, strOf] at q
    · exact qcast hQ (by simp [strOf, q])
    · rw [wrap_nat (by omega)]
      exact ih (qcast hQ (by simp [strOf, q]))
theorem ty_strs {l : List Str} (hl : l.length ≤ 2 ^ 30) (h : ∀ s ∈ l, s.length ≤ 2 ^ 40) (hne : l ≠ []) : HasTy TT 61 (.sl 1 (l.map .str)) := by
  have h1 := sl_ty (t := 61) (xs := l.map .str) undStrs (by kernel_rfl : TT.size 9 = some 1) ⟨by simp; omega, fun b hb => by
    have : b = 16 := by
      have e : TT.bytes 9 = some 16 := by kernel_rfl
      rw [e] at hb
      exact (Option.some.inj hb).symm
    subst this
    simp only [List.length_map]
    omega⟩ (fun x hx => by
      obtain ⟨s, hs, rfl⟩ := List.mem_map.1 hx
      exact ty_str (h s hs))
  cases l with
  | nil => exact absurd rfl hne
  | cons a l => exact h1
theorem r11Key_ok (hs : s.length ≤ 2 ^ 40) (hQ : Qf (.val (.d (.bool (keyB s)))) g) : EvF TT 120 [.str s] g Qf := by
  refine w120 hs ?_
  refine r11among_ok (l := keyL) (ty_strs (l := keyL) (by decide) (by decide) (by decide)) rfl hs ⟨_, rfl, hQ⟩
theorem r12lowWord_ok (hs : s.length ≤ 2 ^ 40) (hQ : Qf (.val (.d (.bool (wLow s)))) g) : EvF TT 71 [.str s] g Qf := by
  refine w71 hs (r11Word_ok true hs ⟨_, rfl, Br_iff.2 ⟨fun q => r11Key_ok hs ⟨_, rfl, ?_⟩, fun q => ?_⟩⟩)
  · exact qcast hQ (by simp [wLow, q])
  · exact qcast hQ (by simp [wLow, q])
theorem r12upWord_ok (hs : s.length ≤ 2 ^ 40) (hQ : Qf (.val (.d (.bool (wUp s)))) g) : EvF TT 73 [.str s] g Qf :=
  w73 hs (r11Word_ok false hs ⟨_, rfl, hQ⟩)
theorem lexkey_ok (hs : s.length ≤ 2 ^ 40) (hQ : Qf (.val (.d (.bool (keyB s)))) g) : EvF TT 208 [.str s] g Qf := by
  refine w208 hs ?_
  repeat' (first | refine Br_iff.2 ⟨fun q => ?_, fun q => ?_⟩)
  all_goals (refine qcast hQ ?_)
  all_goals simp only [beq_iff_eq, beq_eq_false_iff_ne, ne_eq] at *
  all_goals simp_all [keyB, keyL]
  all_goals (simp only [eq_comm] at *; simp_all)
end
end Go.Proofs.YtgmapdcdmomioaaGreatDoor.Pa
