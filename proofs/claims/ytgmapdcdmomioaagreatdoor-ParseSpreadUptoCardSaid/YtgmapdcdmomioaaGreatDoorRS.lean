/- The document's lexer: blanks, words, numbers. The document's lexer: one token; all of them. -/
import Derived.Test.YtgmapdcdmomioaaGreatDoorRR
set_option linter.all false
set_option autoImplicit false
set_option maxRecDepth 100000
namespace Go.Proofs.YtgmapdcdmomioaaGreatDoor.Pa
open Go Go.Proofs.YtgmapdcdmomioaaGreatDoor.Am
variable {s : Str} {g : Glob} {Qf : Out → Glob → Prop} {i : Nat}
theorem dropC {c : UInt8} {r : Str} (h : s.drop i = c :: r) : i < s.length ∧ byteAt s (i : Int) = (c.toNat : Int) ∧ s.drop (i + 1) = r := by
  have hi : i < s.length := by
    rcases Nat.lt_or_ge i s.length with h1 | h1
    · exact h1
    · rw [List.drop_eq_nil_of_le h1] at h; cases h
  rw [List.drop_eq_getElem_cons hi] at h
  injection h with h1 h2
  exact ⟨hi, by rw [byteAt_nat hi, h1], h2⟩
theorem dropN (h : s.drop i = []) (hi : i ≤ s.length) : i = s.length := by
  have := congrArg List.length h
  rw [List.length_drop, List.length_nil] at this
  omega
theorem drop_len {u : Str} (h : s.drop i = u) (hi : i ≤ s.length) : i + u.length = s.length := by
  have := congrArg List.length h
  rw [List.length_drop] at this
  omega
theorem Br_len {A B : Prop} (h : i < s.length) (hA : A) : Br (decide ((i : Int) < (s.length : Int))) A B := by rw [Br_lt h]; exact hA
theorem Br_end {A B : Prop} (h : i = s.length) (hB : B) : Br (decide ((i : Int) < (s.length : Int))) A B := by subst h; rw [Br_ge]; exact hB
theorem skips_ok (hs : s.length ≤ 2 ^ 40) : ∀ (u : Str), (∀ i, s.drop i = u → i ≤ s.length → Qf (.val (.d (.int .i64 ((i + skipN u : Nat) : Int)))) g → L54_1 s i g Qf) ∧ (∀ i, s.drop i = u → i ≤ s.length → Qf (.val (.d (.int .i64 ((i + comN u : Nat) : Int)))) g → L54_6 s i g Qf) := by
  intro u
  induction u with
  | nil =>
    have one : ∀ i, s.drop i = [] → i ≤ s.length → Qf (.val (.d (.int .i64 ((i : Nat) : Int)))) g → L54_1 s i g Qf := fun i hu hi hQ => w54_1 (Br_end (dropN hu hi) hQ)
    exact ⟨fun i hu hi hQ => one i hu hi hQ, fun i hu hi hQ => w54_6 (Br_end (dropN hu hi) (one i hu hi hQ))⟩
  | cons c r ih =>
    obtain ⟨ih1, ih2⟩ := ih
    have one : ∀ i, s.drop i = c :: r → i ≤ s.length → Qf (.val (.d (.int .i64 ((i + skipN (c :: r) : Nat) : Int)))) g → L54_1 s i g Qf := fun i hu hi hQ => by
      obtain ⟨h1, h2, h3⟩ := dropC hu
      have nx : blank c = true → L54_1 s (IntKind.i64.wrap ((i : Int) + 1)) g Qf := fun hb => by
        rw [wrap_nat (by omega)]
        refine ih1 (i + 1) h3 h1 ?_
        simp only [skipN, hb, if_true] at hQ
        rw [show i + 1 + skipN r = i + (1 + skipN r) by omega]
        exact hQ
      refine w54_1 (Br_len h1 ?_)
      rw [h2]
      refine ⟨inB h1, Br_iff.2 ⟨fun q => nx (by simp at q; simp [blank]; omega), fun q1 => ⟨inB h1, Br_iff.2 ⟨fun q => nx (by simp at q; simp [blank]; omega), fun q2 => ⟨inB h1, Br_iff.2 ⟨fun q => nx (by simp at q; simp [blank]; omega), fun q3 => ⟨inB h1, Br_iff.2 ⟨fun q => nx (by simp at q; simp [blank]; omega), fun q4 => ⟨inB h1, Br_iff.2 ⟨fun q5 => ?_, fun q5 => ?_⟩⟩⟩⟩⟩⟩⟩⟩⟩⟩
      all_goals
        have hb : blank c = false := by
          simp at q1 q2 q3 q4
          simp [blank]
          omega
        simp only [skipN, hb, Bool.false_eq_true, if_false] at hQ
      · have hc : (c.toNat == 35) = true := by simp at q5 ⊢; omega
        rw [if_pos hc] at hQ
        refine w54_6 (Br_len h1 ?_)
        rw [h2]
        refine ⟨inB h1, Br_of (by have := beq_iff_eq.1 hc; simp; omega) ?_⟩
        rw [wrap_nat (by omega)]
        refine ih2 (i + 1) h3 h1 ?_
        rw [show i + 1 + comN r = i + (1 + comN r) by omega]
        exact hQ
      · rw [if_neg (by simp at q5 ⊢; omega)] at hQ
        exact hQ
    refine ⟨one, fun i hu hi hQ => ?_⟩
    obtain ⟨h1, h2, h3⟩ := dropC hu
    refine w54_6 (Br_len h1 ?_)
    rw [h2]
    simp only [comN] at hQ
    refine ⟨inB h1, Br_iff.2 ⟨fun q => ?_, fun q => ?_⟩⟩
    · rw [if_neg (by simp at q ⊢; omega)] at hQ
      rw [wrap_nat (by omega)]
      refine ih2 (i + 1) h3 h1 ?_
      rw [show i + 1 + comN r = i + (1 + comN r) by omega]
      exact hQ
    · have hc : c.toNat = 10 := by simp at q; omega
      rw [if_pos (by simp [hc])] at hQ
      refine one i hu hi ?_
      simp only [skipN, blank, hc]
      exact hQ
theorem skip_ok (hs : s.length ≤ 2 ^ 40) (hi : i ≤ s.length) (hQ : Qf (.val (.d (.int .i64 ((i + skipN (s.drop i) : Nat) : Int)))) g) : EvF TT 54 [.str s, .int .i64 (i : Int)] g Qf :=
  w54 hs ((skips_ok hs (s.drop i)).1 i rfl hi hQ)
theorem runN_cons (p : Int → Bool) (c : UInt8) (r : Str) : runN p (c :: r) = if p c.toNat then 1 + runN p r else 0 := by
  unfold runN
  rw [List.takeWhile_cons]
  cases p c.toNat
  · rfl
  · simp only [if_true, List.length_cons]
    omega
theorem runs_ok (hs : s.length ≤ 2 ^ 40) : ∀ (u : Str) (i : Nat), s.drop i = u → i ≤ s.length → Qf (.val (.d (.int .i64 ((i + runN ptB u : Nat) : Int)))) g → L119_1 s i g Qf := by
  intro u
  induction u with
  | nil => exact fun i hu hi hQ => w119_1 (Br_end (dropN hu hi) hQ)
  | cons c r ih =>
    intro i hu hi hQ
    obtain ⟨h1, h2, h3⟩ := dropC hu
    refine w119_1 (Br_len h1 ?_)
    rw [h2]
    rw [runN_cons] at hQ
    refine ⟨inB h1, r11part_ok ⟨_, rfl, Br_iff.2 ⟨fun q => ?_, fun q => ?_⟩⟩⟩
    · rw [if_pos q] at hQ
      rw [wrap_nat (by omega)]
      refine ih (i + 1) h3 h1 ?_
      rw [show i + 1 + runN ptB r = i + (1 + runN ptB r) by omega]
      exact hQ
    · rw [if_neg (by rw [q]; simp)] at hQ
      exact hQ
theorem run_ok (hs : s.length ≤ 2 ^ 40) (hi : i ≤ s.length) (hQ : Qf (.val (.d (.int .i64 ((i + runN ptB (s.drop i) : Nat) : Int)))) g) : EvF TT 119 [.str s, .int .i64 (i : Int)] g Qf :=
  w119 hs (runs_ok hs (s.drop i) i rfl hi hQ)
theorem r11Sign_ok (hs : s.length ≤ 2 ^ 40) (hQ : Qf (.val (.d (.bool (signL.any fun k => k == s)))) g) : EvF TT 123 [.str s] g Qf := by
  refine w123 hs ?_
  refine r11among_ok (l := signL) (ty_strs (l := signL) (by decide) (by decide) (by decide)) rfl hs ⟨_, rfl, hQ⟩
def numS3 (n : Int) (a e : Nat) : Val := .tuple [.d (tkD (4, [], n) a), .d (.int .i64 e), .d (.bool true)]
structure NumQ (Qf : Out → Glob → Prop) (g : Glob) (neg : Bool) (D : Str) (a e : Nat) : Prop where
  some : ∀ n, numR neg D = some n → Qf (.val (numS3 n a e)) g
  none : numR neg D = none → ∀ t k, HasTy TT 43 t → Qf (.val (.tuple [.d t, .d (.int .i64 k), .d (.bool false)])) g
theorem zTokTy : HasTy TT 43 (.agg [.int .i64 0, .str [], .int .i64 0, .int .i64 0]) := ty_tok (t := (0, [], 0)) (p := 0) (by decide)
theorem wrapU8 {c : UInt8} (h : 48 ≤ c.toNat) : IntKind.i64.wrap (IntKind.u8.wrap ((c.toNat : Int) - 48)) = ((c.toNat - 48 : Nat) : Int) := by
  have hc := c.toNat_lt
  have e : IntKind.u8.wrap ((c.toNat : Int) - 48) = ((c.toNat - 48 : Nat) : Int) := by
    have e1 : ((c.toNat : Int) - 48) % 2 ^ 8 = ((c.toNat - 48 : Nat) : Int) := by omega
    show (if (false && decide (((c.toNat : Int) - 48) % 2 ^ 8 ≥ (2 ^ (8 - 1) : Int))) = true then ((c.toNat : Int) - 48) % 2 ^ 8 - 2 ^ 8 else ((c.toNat : Int) - 48) % 2 ^ 8) = _
    simp only [Bool.false_and, Bool.false_eq_true, if_false, e1]
  rw [e, wrap_id (by omega) (by omega)]
theorem num8 {a f e : Nat} {y6 : Dat} (hs : s.length ≤ 2 ^ 40) {v : Nat} (hv : v ≤ 1000000000000000) (hQ : ∀ n : Int, n = (if decide (a < f) then -(v : Int) else v) → Qf (.val (.tuple [.d (tkD (4, [], n) a), .d (.int .i64 e), .d (.bool (inI n))])) g) :
    ∀ (D rest : Str) (j acc : Nat), s.drop j = D ++ rest → j + D.length = e → Dig D → (acc + 1) * 10 ^ D.length ≤ 1000000000000000 → valF acc D = v → L122_8 s a f e acc j y6 g Qf
  | [], rest, j, acc, hu, he, hd, hb, hval => by
    have hj : j = e := by simpa using he
    subst hj
    have hval : acc = v := hval
    subst hval
    refine w122_8 ?_
    rw [Br_ge]
    refine Br_iff.2 ⟨fun q => ?_, fun q => ?_⟩
    · have q : a < f := by have := of_decide_eq_true q; omega
      rw [wrap_id (by omega) (by omega)]
      refine r10In_ok ⟨_, rfl, ?_⟩
      have := hQ (0 - (acc : Int)) (by simp [q])
      exact this
    · have q : ¬ a < f := by have := of_decide_eq_false q; omega
      refine r10In_ok ⟨_, rfl, ?_⟩
      exact hQ (acc : Int) (by simp [q])
  | c :: D, rest, j, acc, hu, he, hd, hb, hval => by
    obtain ⟨h1, h2, h3⟩ := dropC (show s.drop j = c :: (D ++ rest) from hu)
    have hc := hd c (by simp)
    rw [List.length_cons] at he
    rw [List.length_cons, pow_step] at hb
    have l1 := le_pow ((acc + 1) * 10) D.length
    have l2 : (acc * 10 + (c.toNat - 48) + 1) * 10 ^ D.length ≤ (acc + 1) * 10 * 10 ^ D.length := Nat.mul_le_mul_right _ (by omega)
    rw [valF_cons] at hval
    refine w122_8 ?_
    rw [Br_lt (show j < e by omega), h2, wrapU8 hc.1, wrap_nat (by omega)]
    refine ⟨inB h1, ?_⟩
    have e1 : IntKind.i64.wrap ((acc : Int) * 10) = ((acc * 10 : Nat) : Int) := by rw [wrap_id (by omega) (by omega)]; omega
    have e2 : IntKind.i64.wrap (((acc * 10 : Nat) : Int) + ((c.toNat - 48 : Nat) : Int)) = ((acc * 10 + (c.toNat - 48) : Nat) : Int) := by rw [wrap_id (by omega) (by omega)]; omega
    rw [e1, e2]
    exact num8 hs hv hQ D rest (j + 1) (acc * 10 + (c.toNat - 48)) h3 (by omega) hd.tail (Nat.le_trans l2 hb) hval
theorem drop_tw (p : Int → Bool) : ∀ u : Str, ∃ rest, u = tw p u ++ rest
  | [] => ⟨[], rfl⟩
  | c :: r => by
    obtain ⟨rest, h⟩ := drop_tw p r
    unfold tw
    rw [List.takeWhile_cons]
    split
    · exact ⟨rest, by rw [List.cons_append]; exact congrArg (c :: ·) h⟩
    · exact ⟨c :: r, rfl⟩
theorem numEnd {a f : Nat} {y6 : Dat} (hs : s.length ≤ 2 ^ 40) (hf : f ≤ s.length) (hQ : NumQ Qf g (decide (a < f)) (tw dgB (s.drop f)) a (f + runN dgB (s.drop f))) :
    Br (((f + runN dgB (s.drop f) : Nat) : Int) == (f : Int)) (Qf (Out.val (Val.tuple [Val.d (Dat.agg [Dat.int IntKind.i64 0, Dat.str [], Dat.int IntKind.i64 0, Dat.int IntKind.i64 0]), Val.d (Dat.int IntKind.i64 0), Val.d (Dat.bool false)])) g) (Br (decide (1 < IntKind.i64.wrap (((f + runN dgB (s.drop f) : Nat) : Int) - (f : Int)))) (InB (f : Int) s.length ∧ Br (byteAt s (f : Int) == 48) (Qf (Out.val (Val.tuple [Val.d (Dat.agg [Dat.int IntKind.i64 0, Dat.str [], Dat.int IntKind.i64 0, Dat.int IntKind.i64 0]), Val.d (Dat.int IntKind.i64 0), Val.d (Dat.bool false)])) g) (Br (decide (10 < IntKind.i64.wrap (((f + runN dgB (s.drop f) : Nat) : Int) - (f : Int)))) (Qf (Out.val (Val.tuple [Val.d (Dat.agg [Dat.int IntKind.i64 0, Dat.str [], Dat.int IntKind.i64 0, Dat.int IntKind.i64 0]), Val.d (Dat.int IntKind.i64 0), Val.d (Dat.bool false)])) g) (L122_8 s a f ((f + runN dgB (s.drop f) : Nat) : Int) 0 f y6 g Qf))) (Br (decide (10 < IntKind.i64.wrap (((f + runN dgB (s.drop f) : Nat) : Int) - (f : Int)))) (Qf (Out.val (Val.tuple [Val.d (Dat.agg [Dat.int IntKind.i64 0, Dat.str [], Dat.int IntKind.i64 0, Dat.int IntKind.i64 0]), Val.d (Dat.int IntKind.i64 0), Val.d (Dat.bool false)])) g) (L122_8 s a f ((f + runN dgB (s.drop f) : Nat) : Int) 0 f y6 g Qf))) := by
  have hrl := runN_le dgB (s.drop f)
  rw [List.length_drop] at hrl
  have hw : IntKind.i64.wrap (((f + runN dgB (s.drop f) : Nat) : Int) - (f : Int)) = ((runN dgB (s.drop f) : Nat) : Int) := by rw [wrap_id (by omega) (by omega)]; omega
  rw [hw]
  have hD := tw_len dgB (s.drop f)
  have hdig := tw_dig (s.drop f)
  obtain ⟨rest, hrest⟩ := drop_tw dgB (s.drop f)
  generalize hDD : tw dgB (s.drop f) = D at *
  generalize hk : runN dgB (s.drop f) = k at *
  have none : numR (decide (a < f)) D = none → Qf (Out.val (Val.tuple [Val.d (Dat.agg [Dat.int IntKind.i64 0, Dat.str [], Dat.int IntKind.i64 0, Dat.int IntKind.i64 0]), Val.d (Dat.int IntKind.i64 0), Val.d (Dat.bool false)])) g := fun h => hQ.none h _ _ zTokTy
  have fin : D ≠ [] → ¬ (1 < D.length ∧ D.head? = some 48) → Br (decide (10 < ((k : Nat) : Int))) (Qf (Out.val (Val.tuple [Val.d (Dat.agg [Dat.int IntKind.i64 0, Dat.str [], Dat.int IntKind.i64 0, Dat.int IntKind.i64 0]), Val.d (Dat.int IntKind.i64 0), Val.d (Dat.bool false)])) g) (L122_8 s a f ((f + k : Nat) : Int) 0 f y6 g Qf) := fun h0 h1 => by
    refine Br_iff.2 ⟨fun q => none ?_, fun q => ?_⟩
    · have := of_decide_eq_true q
      unfold numR
      rw [if_pos (.inr (.inr (by omega)))]
    · have hk10 : D.length ≤ 10 := by have := of_decide_eq_false q; omega
      have hp : 10 ^ D.length ≤ 10 ^ 10 := Nat.pow_le_pow_right (by decide) hk10
      have hval := (pu_val D 0 hdig (by omega)).2
      refine num8 hs (v := valF 0 D) (by omega) (fun n hn => ?_) D rest f 0 hrest (by omega) hdig (by omega) rfl
      have e : numR (decide (a < f)) D = if inI n then some n else .none := by
        unfold numR
        rw [if_neg (fun h => h.elim h0 fun h => h.elim h1 fun h => by omega), hn]
      cases hi : inI n with
      | true =>
        rw [hi, if_pos rfl] at e
        exact hQ.some n e
      | false =>
        rw [hi, if_neg (by simp)] at e
        exact hQ.none e _ _ (ty_tok (t := (4, [], n)) (by simp))
  refine Br_iff.2 ⟨fun q => none ?_, fun q => ?_⟩
  · have : k = 0 := by have := beq_iff_eq.1 q; omega
    unfold numR
    rw [if_pos (.inl (List.eq_nil_of_length_eq_zero (by omega)))]
  · have hk0 : D ≠ [] := by
      rintro h
      rw [h] at hD
      simp at q hD
      omega
    obtain ⟨c, r, hcr⟩ := List.exists_cons_of_ne_nil hk0
    have hsf : s.drop f = c :: (r ++ rest) := by rw [hrest, hcr]; rfl
    obtain ⟨h1, h2, h3⟩ := dropC hsf
    refine Br_iff.2 ⟨fun q1 => ⟨inB h1, ?_⟩, fun q1 => fin hk0 fun h => ?_⟩
    · rw [h2]
      refine Br_iff.2 ⟨fun q2 => none ?_, fun q2 => fin hk0 fun h => ?_⟩
      · have hc : c = 48 := UInt8.toNat_inj.1 (by have := beq_iff_eq.1 q2; show c.toNat = 48; omega)
        unfold numR
        rw [if_pos (.inr (.inl ⟨by have := of_decide_eq_true q1; omega, by rw [hcr, hc]; rfl⟩))]
      · have := h.2
        rw [hcr] at this
        injection this with this
        rw [this] at q2
        simp at q2
    · have := of_decide_eq_false q1
      omega
theorem number_go {a f : Nat} {y6 : Dat} (hs : s.length ≤ 2 ^ 40) (hf : f ≤ s.length) (hQ : NumQ Qf g (decide (a < f)) (tw dgB (s.drop f)) a (f + runN dgB (s.drop f))) :
    ∀ (u : Str) (i : Nat), s.drop i = u → i ≤ s.length → i + runN dgB u = f + runN dgB (s.drop f) → L122_2 s a f i y6 g Qf := by
  intro u
  induction u with
  | nil =>
    intro i hu hi he
    have he : i = f + runN dgB (s.drop f) := he
    refine w122_2 (Br_end (dropN hu hi) ?_)
    rw [he]
    exact numEnd hs hf hQ
  | cons c r ih =>
    intro i hu hi he
    obtain ⟨h1, h2, h3⟩ := dropC hu
    refine w122_2 (Br_len h1 ?_)
    rw [h2]
    rw [runN_cons] at he
    refine ⟨inB h1, r11digit_ok ⟨_, rfl, Br_iff.2 ⟨fun q => ?_, fun q => ?_⟩⟩⟩
    · rw [if_pos q] at he
      rw [wrap_nat (by omega)]
      exact ih (i + 1) h3 h1 (by omega)
    · rw [if_neg (by rw [q]; simp)] at he
      have he : i = f + runN dgB (s.drop f) := he
      rw [he]
      exact numEnd hs hf hQ
theorem number_all {a f : Nat} (hs : s.length ≤ 2 ^ 40) (hf : f ≤ s.length) (hQ : NumQ Qf g (decide (a < f)) (tw dgB (s.drop f)) a (f + runN dgB (s.drop f))) : EvF TT 122 [.str s, .int .i64 (a : Int), .int .i64 (f : Int)] g Qf :=
  w122 hs (number_go hs hf hQ (s.drop f) f rfl hf rfl)
end Go.Proofs.YtgmapdcdmomioaaGreatDoor.Pa
namespace Go.Proofs.YtgmapdcdmomioaaGreatDoor.Pa
open Go Go.Proofs.YtgmapdcdmomioaaGreatDoor.Am
variable {s : Str} {g : Glob} {Qf : Out → Glob → Prop} {i : Nat}
theorem sub_drop {a k : Nat} : subStr s (a : Int) ((a + k : Nat) : Int) = (s.drop a).take k := by
  simp only [subStr, Int.toNat_natCast]
  rw [List.drop_take, Nat.add_sub_cancel_left]
theorem signF_none {n : Nat} : ∀ {l : List Str}, (∀ x ∈ l, x.length = n) → s.length < n → signF s l = none
  | [], _, _ => rfl
  | x :: l, h, hn => by
    have hx := h x (by simp)
    have : x.isPrefixOf s = false := by
      rw [← Bool.not_eq_true, List.isPrefixOf_iff_prefix]
      exact fun hp => by have := hp.length_le; omega
    simp only [signF, this, Bool.false_eq_true, if_false]
    exact signF_none (fun y hy => h y (List.mem_cons_of_mem _ hy)) hn
theorem signF_take {n : Nat} : ∀ {l : List Str}, (∀ x ∈ l, x.length = n) → n ≤ s.length → signF s l = if l.any (fun k => k == s.take n) then some (s.take n) else none
  | [], _, _ => rfl
  | x :: l, h, hn => by
    have hx := h x (by simp)
    have e : x.isPrefixOf s = (x == s.take n) := by
      rw [Bool.eq_iff_iff, List.isPrefixOf_iff_prefix, beq_iff_eq, List.prefix_iff_eq_take, hx]
    simp only [signF, e, List.any_cons]
    by_cases hq : x = s.take n
    · have hq' : (x == s.take n) = true := by simpa using hq
      simp only [hq', if_true, Bool.true_or]
      rw [hq]
    · have hq' : (x == s.take n) = false := by simpa using hq
      simp only [hq', Bool.false_eq_true, if_false, Bool.false_or]
      exact signF_take (fun y hy => h y (List.mem_cons_of_mem _ hy)) hn
theorem signF_app : ∀ {l1 l2 : List Str}, signF s (l1 ++ l2) = match signF s l1 with | some x => some x | none => signF s l2
  | [], l2 => rfl
  | x :: l1, l2 => by
    simp only [List.cons_append, signF]
    split
    · rfl
    · exact signF_app
def sg2 : List Str := [[45, 62], [61, 61]]
def sg1 : List Str := [[124], [61], [40], [41], [59], [43], [45], [42], [47], [37], [60], [95]]
theorem signL_app : signL = sg2 ++ sg1 := rfl
theorem any2 {u : Str} (h : u.length = 2) : (signL.any fun k => k == u) = sg2.any fun k => k == u := by
  rw [signL_app, List.any_append]
  have : (sg1.any fun k => k == u) = false := by
    rw [List.any_eq_false]
    intro x hx e
    have h1 : ∀ x ∈ sg1, x.length = 1 := by decide
    have := h1 x hx
    rw [beq_iff_eq.1 e] at this
    omega
  rw [this, Bool.or_false]
theorem any1 {u : Str} (h : u.length = 1) : (signL.any fun k => k == u) = sg1.any fun k => k == u := by
  rw [signL_app, List.any_append]
  have : (sg2.any fun k => k == u) = false := by
    rw [List.any_eq_false]
    intro x hx e
    have h1 : ∀ x ∈ sg2, x.length = 2 := by decide
    have := h1 x hx
    rw [beq_iff_eq.1 e] at this
    omega
  rw [this, Bool.false_or]
theorem signF_eq {c : UInt8} {r : Str} : signF (c :: r) signL = if 2 ≤ (c :: r).length ∧ (signL.any fun k => k == (c :: r).take 2) = true then some ((c :: r).take 2) else if (signL.any fun k => k == (c :: r).take 1) = true then some ((c :: r).take 1) else none := by
  rw [signL_app, signF_app, ← signL_app]
  have h1 : signF (c :: r) sg1 = if (signL.any fun k => k == (c :: r).take 1) = true then some ((c :: r).take 1) else none := by
    rw [any1 (by simp), signF_take (n := 1) (by decide) (by simp)]
  rw [h1]
  generalize (if (signL.any fun k => k == (c :: r).take 1) = true then some ((c :: r).take 1) else none) = X
  by_cases h2 : 2 ≤ (c :: r).length
  · rw [signF_take (n := 2) (by decide) h2, ← any2 (by rw [List.length_take]; omega)]
    by_cases h3 : (signL.any fun k => k == (c :: r).take 2) = true
    · rw [if_pos h3, if_pos ⟨h2, h3⟩]
    · rw [if_neg h3, if_neg (fun h => h3 h.2)]
  · rw [signF_none (n := 2) (by decide) (by omega), if_neg (fun h => h2 h.1)]
def oneV (t : Tk × Nat × Int) (a : Nat) : Val := if t.2.2 = 0 then .tuple [.d (tkD t.1 a), .d (.int .i64 ((a + t.2.1 : Nat) : Int)), .d (.int .i64 0)] else .tuple [.d (tkD (0, [], 0) 0), .d (.int .i64 0), .d (.int .i64 t.2.2)]
theorem oneV_ok {k n : Int} {x : Str} {m a : Nat} : oneV ((k, x, n), m, 0) a = .tuple [.d (tkD (k, x, n) a), .d (.int .i64 ((a + m : Nat) : Int)), .d (.int .i64 0)] := rfl
theorem oneV_err {t : Tk} {m a : Nat} {e : Int} (h : e ≠ 0) : oneV (t, m, e) a = .tuple [.d (tkD (0, [], 0) 0), .d (.int .i64 0), .d (.int .i64 e)] := by
  unfold oneV
  rw [if_neg h]
theorem smcp {n : Int} (h : smB n = true) : cpB n = false := by
  unfold smB at h
  unfold cpB
  rw [Bool.and_eq_true, decide_eq_true_eq, decide_eq_true_eq] at h
  simp
  omega
theorem sm_pt {n : Int} (h : smB n = true) : ptB n = true := by unfold ptB; rw [h]; rfl
theorem cp_pt {n : Int} (h : cpB n = true) : ptB n = true := by unfold ptB; rw [h]; simp
theorem signs28 {a : Nat} {y4 : Dat} {c : UInt8} {r : Str} (hs : s.length ≤ 2 ^ 40) (hu : s.drop a = c :: r) (hQ : Qf (.val (oneV (match signF (c :: r) signL with | some x => ((6, x, 0), x.length, 0) | none => ((0, [], 0), 0, 110)) a)) g) : L55_28 s a 2 y4 g Qf := by
  obtain ⟨h1, h2, h3⟩ := dropC hu
  have hlen : a + (c :: r).length = s.length := drop_len hu (by omega)
  rw [signF_eq] at hQ
  have none : (signL.any fun k => k == (c :: r).take 1) ≠ true → ¬ (2 ≤ (c :: r).length ∧ (signL.any fun k => k == (c :: r).take 2) = true) → Qf (Out.val (Val.tuple [Val.d (Dat.agg [Dat.int IntKind.i64 0, Dat.str [], Dat.int IntKind.i64 0, Dat.int IntKind.i64 0]), Val.d (Dat.int IntKind.i64 0), Val.d (Dat.int IntKind.i64 110)])) g := fun k1 k2 => by
    rw [if_neg k2, if_neg k1] at hQ
    exact hQ
  have one : ¬ (2 ≤ (c :: r).length ∧ (signL.any fun k => k == (c :: r).take 2) = true) → L55_28 s a 1 y4 g Qf := fun k2 => by
    have hw : IntKind.i64.wrap ((a : Int) + 1) = ((a + 1 : Nat) : Int) := wrap_nat (by omega)
    refine w55_28 (Br_of (by decide) ?_)
    rw [hw]
    refine Br_of (by simp; omega) ⟨⟨by omega, by omega, by omega⟩, ?_⟩
    rw [sub_drop, hu]
    refine r11Sign_ok (by simp) ⟨_, rfl, Br_iff.2 ⟨fun q => ⟨⟨by omega, by omega, by omega⟩, ?_⟩, fun q => ?_⟩⟩
    · rw [if_neg k2, if_pos q] at hQ
      exact hQ
    · exact w55_28 (Br_no (by decide) (none (by rw [q]; simp) k2))
  have hw : 2 ≤ (c :: r).length → IntKind.i64.wrap ((a : Int) + 2) = ((a + 2 : Nat) : Int) := fun h => by rw [wrap_id (by omega) (by omega)]; omega
  refine w55_28 (Br_of (by decide) (Br_iff.2 ⟨fun q => ?_, fun q => ?_⟩))
  · have hl2 : 2 ≤ (c :: r).length := by
      have := of_decide_eq_true q
      rw [wrap_id (by omega) (by omega)] at this
      omega
    rw [hw hl2, sub_drop, hu]
    refine ⟨⟨by omega, by omega, by omega⟩, r11Sign_ok (by rw [List.length_take]; omega) ⟨_, rfl, Br_iff.2 ⟨fun q => ⟨⟨by omega, by omega, by omega⟩, ?_⟩, fun q => ?_⟩⟩⟩
    · rw [if_pos ⟨hl2, q⟩] at hQ
      have e2 : ((c :: r).take 2).length = 2 := by rw [List.length_take]; omega
      dsimp only at hQ
      rw [e2] at hQ
      exact hQ
    · exact one (fun h => by rw [q] at h; exact absurd h.2 (by simp))
  · have hl2 : ¬ 2 ≤ (c :: r).length := fun h => by
      have := of_decide_eq_false q
      rw [hw h] at this
      omega
    exact one fun h => hl2 h.1
theorem one_ok {a : Nat} {c : UInt8} {r : Str} (hs : s.length ≤ 2 ^ 40) (hu : s.drop a = c :: r) (hQ : Qf (.val (oneV (tokF (c :: r)) a)) g) : EvF TT 55 [.str s, .int .i64 (a : Int)] g Qf := by
  obtain ⟨h1, h2, h3⟩ := dropC hu
  have hlen : a + (c :: r).length = s.length := drop_len hu (by omega)
  rw [List.length_cons] at hlen
  have hn := runN_le ptB r
  have hm := runN_le dgB r
  rw [tokF_eq] at hQ
  refine w55 hs ⟨inB h1, ?_⟩
  rw [h2]
  -- words
  have block : (smB c.toNat = true ∨ cpB c.toNat = true) → EvF TT 119 [Dat.str s, Dat.int IntKind.i64 a] g fun out g' => Outc (fun x => Qf (Out.panic x) g') (fun v => ∃ n, v = Val.d (Dat.int IntKind.i64 n) ∧ Br (decide (32 < IntKind.i64.wrap (n - a))) (Qf (Out.val (Val.tuple [Val.d (Dat.agg [Dat.int IntKind.i64 0, Dat.str [], Dat.int IntKind.i64 0, Dat.int IntKind.i64 0]), Val.d (Dat.int IntKind.i64 0), Val.d (Dat.int IntKind.i64 2)])) g') (InS a n s.length ∧ EvF TT 120 [Dat.str (strOf (Dat.str (subStr s a n)))] g' fun out g' => Outc (fun x => Qf (Out.panic x) g') (fun v => ∃ b, v = Val.d (Dat.bool b) ∧ Br b (EvF TT 118 [Dat.int IntKind.u8 c.toNat] g' fun out g' => Outc (fun x => Qf (Out.panic x) g') (fun v => ∃ b, v = Val.d (Dat.bool b) ∧ Br b (Qf (Out.val (Val.tuple [Val.d (tkD (2, subStr s a n, 0) a), Val.d (Dat.int IntKind.i64 n), Val.d (Dat.int IntKind.i64 0)])) g') (Qf (Out.val (Val.tuple [Val.d (tkD (5, subStr s a n, 0) a), Val.d (Dat.int IntKind.i64 n), Val.d (Dat.int IntKind.i64 0)])) g')) out) (EvF TT 118 [Dat.int IntKind.u8 c.toNat] g' fun out g' => Outc (fun x => Qf (Out.panic x) g') (fun v => ∃ b, v = Val.d (Dat.bool b) ∧ Br b (Qf (Out.val (Val.tuple [Val.d (tkD (2, subStr s a n, 0) a), Val.d (Dat.int IntKind.i64 n), Val.d (Dat.int IntKind.i64 0)])) g') (Qf (Out.val (Val.tuple [Val.d (tkD (1, subStr s a n, 0) a), Val.d (Dat.int IntKind.i64 n), Val.d (Dat.int IntKind.i64 0)])) g')) out)) out)) out := fun hc => by
    have hpt : ptB c.toNat = true := hc.elim sm_pt cp_pt
    have hrun : runN ptB (s.drop a) = 1 + runN ptB r := by rw [hu, runN_cons, if_pos hpt]
    refine run_ok hs (by omega) ⟨_, rfl, ?_⟩
    rw [hrun, sub_drop, hu, take1_tw]
    have hw : IntKind.i64.wrap (((a + (1 + runN ptB r) : Nat) : Int) - (a : Int)) = ((1 + runN ptB r : Nat) : Int) := by rw [wrap_id (by omega) (by omega)]; omega
    rw [hw]
    have hl : (c :: tw ptB r).length = 1 + runN ptB r := by rw [List.length_cons, tw_len]; omega
    have hQ : Qf (.val (if smB c.toNat = true then oneV ((wordF 1 (c :: tw ptB r)).1, 1 + runN ptB r, (wordF 1 (c :: tw ptB r)).2) a else oneV ((wordF 2 (c :: tw ptB r)).1, 1 + runN ptB r, (wordF 2 (c :: tw ptB r)).2) a)) g := by
      by_cases q : smB c.toNat = true
      · rw [if_pos q] at hQ ⊢
        exact hQ
      · rw [if_neg q] at hQ ⊢
        rw [if_pos (hc.resolve_left q)] at hQ
        exact hQ
    refine Br_iff.2 ⟨fun q => ?_, fun q => ⟨⟨by omega, by omega, by omega⟩, ?_⟩⟩
    · have hq : 32 < (c :: tw ptB r).length := by have := of_decide_eq_true q; omega
      have e : ∀ k, (wordF k (c :: tw ptB r)).2 = 2 := fun k => by unfold wordF; rw [if_pos hq]
      have hv : (if smB c.toNat = true then oneV ((wordF 1 (c :: tw ptB r)).1, 1 + runN ptB r, (wordF 1 (c :: tw ptB r)).2) a else oneV ((wordF 2 (c :: tw ptB r)).1, 1 + runN ptB r, (wordF 2 (c :: tw ptB r)).2) a) = .tuple [.d (tkD (0, [], 0) 0), .d (.int .i64 0), .d (.int .i64 2)] := by
        rw [e 1, e 2, oneV_err (by decide), oneV_err (by decide)]
        split <;> rfl
      rw [hv] at hQ
      exact hQ
    · have hq : ¬ 32 < (c :: tw ptB r).length := by have := of_decide_eq_false q; omega
      have e : ∀ k, wordF k (c :: tw ptB r) = ((if k == 1 && keyB (c :: tw ptB r) then 5 else k, c :: tw ptB r, 0), 0) := fun k => by unfold wordF; rw [if_neg hq]
      rw [e 1, e 2] at hQ
      refine r11Key_ok (by show (c :: tw ptB r).length ≤ _; omega) ⟨_, rfl, Br_iff.2 ⟨fun qk => r11capital_ok ⟨_, rfl, Br_iff.2 ⟨fun qc => ?_, fun qc => ?_⟩⟩, fun qk => r11capital_ok ⟨_, rfl, Br_iff.2 ⟨fun qc => ?_, fun qc => ?_⟩⟩⟩⟩
      · have q0 : ¬ smB c.toNat = true := fun h => by rw [smcp h] at qc; cases qc
        rw [if_neg q0] at hQ
        exact hQ
      · have q0 : smB c.toNat = true := hc.resolve_right (by rw [qc]; simp)
        rw [if_pos q0, show ((1 : Int) == 1 && keyB (c :: tw ptB r)) = true by rw [show keyB (c :: tw ptB r) = true from qk]; rfl] at hQ
        exact hQ
      · have q0 : ¬ smB c.toNat = true := fun h => by rw [smcp h] at qc; cases qc
        rw [if_neg q0] at hQ
        exact hQ
      · have q0 : smB c.toNat = true := hc.resolve_right (by rw [qc]; simp)
        rw [if_pos q0, show ((1 : Int) == 1 && keyB (c :: tw ptB r)) = false by rw [show keyB (c :: tw ptB r) = false from qk]; rfl] at hQ
        exact hQ
  refine r11small_ok ⟨_, rfl, Br_iff.2 ⟨fun q1 => block (.inl q1), fun q1 => r11capital_ok ⟨_, rfl, Br_iff.2 ⟨fun q2 => block (.inr q2), fun q2 => ?_⟩⟩⟩⟩
  rw [if_neg (by rw [q1]; simp), if_neg (by rw [q2]; simp)] at hQ
  have hw1 : IntKind.i64.wrap ((a : Int) + 1) = ((a + 1 : Nat) : Int) := wrap_nat (by omega)
  rw [hw1]
  refine Br_iff.2 ⟨fun q3 => ?_, fun q3 => ?_⟩
  · have hc : c.toNat = 39 := by have := beq_iff_eq.1 q3; omega
    have hnum : numB c = false := by unfold numB; rw [hc]; rfl
    have hsg : signF (c :: r) signL = none := by
      have : c = 39 := UInt8.toNat_inj.1 hc
      rw [this]
      exact signF_quote r
    rw [hnum, hsg] at hQ
    have bad : quoteB c r = false → Qf (Out.val (Val.tuple [Val.d (Dat.agg [Dat.int IntKind.i64 0, Dat.str [], Dat.int IntKind.i64 0, Dat.int IntKind.i64 0]), Val.d (Dat.int IntKind.i64 0), Val.d (Dat.int IntKind.i64 110)])) g := fun h => by
      rw [h] at hQ
      exact hQ
    refine Br_iff.2 ⟨fun q4 => bad ?_, fun q4 => ?_⟩
    · have : r = [] := List.eq_nil_of_length_eq_zero (by have := beq_iff_eq.1 q4; omega)
      rw [this]
      simp [quoteB]
    · have hr : r ≠ [] := by
        rintro rfl
        simp at q4 hlen
        omega
      obtain ⟨d, r', rfl⟩ := List.exists_cons_of_ne_nil hr
      obtain ⟨k1, k2, k3⟩ := dropC h3
      rw [k2]
      refine ⟨inB k1, r11small_ok ⟨_, rfl, Br_iff.2 ⟨fun q5 => bad ?_, fun q5 => ?_⟩⟩⟩
      · have q5 : smB d.toNat = false := by simpa using q5
        simp [quoteB, q5]
      · have q5 : smB d.toNat = true := by simpa using q5
        have hd := sm_pt q5
        have hqt : quoteB c (d :: r') = true := by
          simp only [quoteB, hc, q5, Bool.and_true]
          have : runN ptB (d :: r') = 1 + runN ptB r' := by rw [runN_cons, if_pos hd]
          simp [this]
          omega
        rw [hqt, if_pos rfl] at hQ
        refine run_ok hs (by omega) ⟨_, rfl, ?_⟩
        rw [h3]
        have hw : IntKind.i64.wrap (IntKind.i64.wrap (((a + 1 + runN ptB (d :: r') : Nat) : Int) - (a : Int)) - 1) = ((runN ptB (d :: r') : Nat) : Int) := by
          rw [wrap_id (n := ((a + 1 + runN ptB (d :: r') : Nat) : Int) - (a : Int)) (by omega) (by omega), wrap_id (by omega) (by omega)]
          omega
        rw [hw]
        refine Br_iff.2 ⟨fun q6 => ?_, fun q6 => ⟨⟨by omega, by omega, by rw [List.length_cons] at hlen hn; omega⟩, ?_⟩⟩
        · have hq : 32 < (tw ptB (d :: r')).length := by have := of_decide_eq_true q6; rw [tw_len]; omega
          have e : (wordF 3 (tw ptB (d :: r'))).2 = 2 := by unfold wordF; rw [if_pos hq]
          rw [e, oneV_err (by decide)] at hQ
          exact hQ
        · have hq : ¬ 32 < (tw ptB (d :: r')).length := by have := of_decide_eq_false q6; rw [tw_len]; omega
          have e : wordF 3 (tw ptB (d :: r')) = ((3, tw ptB (d :: r'), 0), 0) := by unfold wordF; rw [if_neg hq]; rfl
          rw [e, oneV_ok] at hQ
          rw [show subStr s ((a + 1 : Nat) : Int) ((a + 1 + runN ptB (d :: r') : Nat) : Int) = tw ptB (d :: r') by rw [sub_drop, h3, take_tw]]
          rw [show a + (1 + runN ptB (d :: r')) = a + 1 + runN ptB (d :: r') by omega] at hQ
          exact hQ
  · have hc : c.toNat ≠ 39 := by have := beq_eq_false_iff_ne.1 q3; omega
    have hqt : quoteB c r = false := by simp [quoteB, hc]
    rw [hqt] at hQ
    have hQ : Qf (.val (oneV (if numB c then ((numF (c :: tw dgB r)).1, 1 + runN dgB r, (numF (c :: tw dgB r)).2) else match signF (c :: r) signL with | some x => ((6, x, 0), x.length, 0) | none => ((0, [], 0), 0, 110)) a)) g := hQ
    have numQ : ∀ {neg : Bool} {D : Str}, numB c = true → numR neg D = numTok (c :: tw dgB r) → NumQ (fun out g' => Outc (fun x => Qf (Out.panic x) g') (fun v => ∃ x, HasTy TT 43 x ∧ ∃ n b, RetT v [x, Dat.int IntKind.i64 n, Dat.bool b] ∧ Br (!b) (Qf (Out.val (Val.tuple [Val.d (Dat.agg [Dat.int IntKind.i64 0, Dat.str [], Dat.int IntKind.i64 0, Dat.int IntKind.i64 0]), Val.d (Dat.int IntKind.i64 0), Val.d (Dat.int IntKind.i64 110)])) g') (Qf (Out.val (Val.tuple [Val.d (Dat.agg [Dat.int IntKind.i64 (intOf (fld x 0)), Dat.str (strOf (fld x 1)), Dat.int IntKind.i64 (intOf (fld x 2)), Dat.int IntKind.i64 (intOf (fld x 3))]), Val.d (Dat.int IntKind.i64 n), Val.d (Dat.int IntKind.i64 0)])) g')) out) g neg D a (a + (1 + runN dgB r)) := fun {neg D} hb he => by
      rw [if_pos hb] at hQ
      unfold numF at hQ
      rw [← he] at hQ
      refine ⟨fun n hn => ?_, fun hn t k ht => ?_⟩
      · rw [hn] at hQ
        exact ⟨_, ty_tok (t := (4, [], n)) (p := a) (by simp), _, true, ⟨rfl, rfl, rfl, trivial⟩, hQ⟩
      · rw [hn] at hQ
        exact ⟨t, ht, _, false, ⟨rfl, rfl, rfl, trivial⟩, hQ⟩
    refine Br_iff.2 ⟨fun q4 => Br_of q4 ?_, fun q4 => r11digit_ok ⟨_, rfl, Br_iff.2 ⟨fun q5 => Br_no q4 ?_, fun q5 => ?_⟩⟩⟩
    · have h : c.toNat = 126 := by have := beq_iff_eq.1 q4; omega
      have hc' : c = 126 := UInt8.toNat_inj.1 h
      have := numQ (neg := true) (D := tw dgB r) (by simp [numB, h]) (by rw [hc', numTok_neg (tw_dig r)])
      refine number_all hs (f := a + 1) (by omega) ?_
      rw [h3, show decide (a < a + 1) = true by simp, show a + 1 + runN dgB r = a + (1 + runN dgB r) by omega]
      exact this
    · have hdc : Dig (c :: tw dgB r) := fun x hx => by
        rcases List.mem_cons.1 hx with rfl | hx
        · unfold dgB at q5
          rw [Bool.and_eq_true, decide_eq_true_eq, decide_eq_true_eq] at q5
          omega
        · exact tw_dig r x hx
      have htw : tw dgB (c :: r) = c :: tw dgB r := by simp [tw, q5]
      have := numQ (neg := false) (D := c :: tw dgB r) (by simp [numB, q5]) (by rw [numTok_pos hdc])
      refine number_all hs (f := a) (by omega) ?_
      rw [hu, htw, runN_cons, if_pos q5, show decide (a < a) = false by simp]
      exact this
    · have hnb : numB c = false := by
        have q4 : c.toNat ≠ 126 := by have := beq_eq_false_iff_ne.1 q4; omega
        simp [numB, q4, q5]
      rw [hnb] at hQ
      exact signs28 hs hu hQ
end Go.Proofs.YtgmapdcdmomioaaGreatDoor.Pa
