/- The document's parser: types, patterns. The document's parser: expressions. -/
import Derived.Test.YtgmapdcdmomioaaGreatDoorRN
set_option linter.all false
set_option autoImplicit false
set_option maxRecDepth 100000
namespace Go.Proofs.YtgmapdcdmomioaaGreatDoor.Pa
open Go Go.Proofs.YtgmapdcdmomioaaGreatDoor.Am
variable {V : Env} {g g0 g1 : Glob} {r : List Pk} {Qf Qi : Out → Glob → Prop} {α β γ : Type} {f : Option Int} {p : Int}
structure TyR (V : Env) (n : Nat) : Prop where
  typ : ∀ {g : Glob} {r : List Pk} {Qf : Out → Glob → Prop}, RS V g none r → RFin V absTy 94 g (gTyp V.en n r) Qf → EvF TT 188 [.ptr (some (V.p, 0))] g Qf
  tyapp : ∀ {g : Glob} {r : List Pk} {Qf : Out → Glob → Prop}, RS V g none r → RFin V absTy 94 g (gTyapp V.en n r) Qf → EvF TT 216 [.ptr (some (V.p, 0))] g Qf
  args : ∀ {g0 g : Glob} {r : List Pk} {y3 y2 : Dat} {Qf : Out → Glob → Prop}, RS V g none r → Nx V g0 g → HasTy TT 94 y3 → tyKind (absTy y3) = 1 ∨ tyKind (absTy y3) = 4 → Lv g0.toks.length g 4 (fld y3 3) → (elsOf (fld y3 3)).length + r.length ≤ 5000 →
    RFin V absTy 94 g0 (gTyArgs V.en n (absTy y3) r) Qf → L216_4 V.p y3 y2 g Qf
  tyatom : ∀ {g : Glob} {r : List Pk} {Qf : Out → Glob → Prop}, RS V g none r → RFin V absTy 94 g (gTyatom V.en n r) Qf → EvF TT 110 [.ptr (some (V.p, 0))] g Qf
structure PtR (V : Env) (n : Nat) : Prop where
  pat : ∀ {g : Glob} {r : List Pk} {Qf : Out → Glob → Prop}, RS V g none r → RFin V absPt 127 g (gPat V.en n r) Qf → EvF TT 189 [.ptr (some (V.p, 0))] g Qf
  args : ∀ {g0 g : Glob} {r : List Pk} {y4 y2 : Dat} {Qf : Out → Glob → Prop}, RS V g none r → Nx V g0 g → HasTy TT 127 y4 → Lv g0.toks.length g 5 (fld y4 3) → (elsOf (fld y4 3)).length + r.length ≤ 5000 →
    RFin V absPt 127 g0 (gPatArgs V.en n (absPt y4) r) Qf → L189_5 V.p y4 y2 g Qf
  patom : ∀ {g : Glob} {r : List Pk} {Qf : Out → Glob → Prop}, RS V g none r → RFin V absPt 127 g (gPatom V.en n r) Qf → EvF TT 217 [.ptr (some (V.p, 0))] g Qf
end Go.Proofs.YtgmapdcdmomioaaGreatDoor.Pa
namespace Go.Proofs.YtgmapdcdmomioaaGreatDoor.Pa
open Go Go.Proofs.YtgmapdcdmomioaaGreatDoor.Am
variable {V : Env} {g g0 g1 : Glob} {r : List Pk} {Qf Qi : Out → Glob → Prop} {α β γ : Type} {f : Option Int} {p : Int}
theorem zExD : HasTy TT 27 (exD 0 [] [] 0 .nil .nil 0) := exD_ty (by decide) (by decide) nil_exprs nil_pats
structure ExR (V : Env) (n : Nat) : Prop where
  ex : ∀ {g : Glob} {r : List Pk} {Qf : Out → Glob → Prop}, RS V g none r → RFin V absEx 27 g (gEx V.en n r) Qf → EvF TT 50 [.ptr (some (V.p, 0))] g Qf
  lev : ∀ {l : Nat} {g : Glob} {r : List Pk} {Qf : Out → Glob → Prop}, l ≤ 3 → RS V g none r → RFin V absEx 27 g (gLev V.en n l r) Qf → EvF TT 113 [.ptr (some (V.p, 0)), .int .i64 (l : Int)] g Qf
  ops : ∀ {l : Nat} {g0 g : Glob} {r : List Pk} {y5 y4 : Dat} {Qf : Out → Glob → Prop}, l < 3 → RS V g none r → Nx V g0 g → HasTy TT 27 y5 → RFin V absEx 27 g0 (gOps V.en n l (absEx y5) r) Qf → L113_5 V.p (l : Int) (.sl 1 ((sgns l).map .str)) y5 y4 g Qf
  app : ∀ {g : Glob} {r : List Pk} {Qf : Out → Glob → Prop}, RS V g none r → RFin V absEx 27 g (gApp V.en n r) Qf → EvF TT 190 [.ptr (some (V.p, 0))] g Qf
  con : ∀ {g0 g : Glob} {r : List Pk} {y4 y2 : Dat} {Qf : Out → Glob → Prop}, RS V g none r → Nx V g0 g → HasTy TT 27 y4 → Lv g0.toks.length g 7 (fld y4 4) → (elsOf (fld y4 4)).length + r.length ≤ 5000 →
    RFin V absEx 27 g0 (gConArgs V.en n (absEx y4) r) Qf → L190_6 V.p y4 y2 g Qf
  args : ∀ {g0 g : Glob} {r : List Pk} {y5 y2 : Dat} {Qf : Out → Glob → Prop}, RS V g none r → Nx V g0 g → HasTy TT 27 y5 → RFin V absEx 27 g0 (gAppArgs V.en n (absEx y5) r) Qf → L190_10 V.p y5 y2 g Qf
  atom : ∀ {g : Glob} {r : List Pk} {Qf : Out → Glob → Prop}, RS V g none r → RFin V absEx 27 g (gAtom V.en n r) Qf → EvF TT 219 [.ptr (some (V.p, 0))] g Qf
  br : ∀ {g0 g : Glob} {r : List Pk} {y5 y4 : Dat} {Qf : Out → Glob → Prop}, RS V g none r → Nx V g0 g → HasTy TT 27 y5 → Lv g0.toks.length g 7 (fld y5 4) → Lv g0.toks.length g 5 (fld y5 5) → (elsOf (fld y5 4)).length + r.length ≤ 5000 → (elsOf (fld y5 5)).length + r.length ≤ 5000 →
    RFin V absEx 27 g0 (gBr V.en n (absEx y5) r) Qf → L112_3 V.p y5 y4 g Qf
end Go.Proofs.YtgmapdcdmomioaaGreatDoor.Pa
