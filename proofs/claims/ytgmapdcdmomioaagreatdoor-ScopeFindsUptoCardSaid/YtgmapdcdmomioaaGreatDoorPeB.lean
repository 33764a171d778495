/- The law ParseSame told: it answers true. -/
import Derived.Test.YtgmapdcdmomioaaGreatDoorPwD
import Derived.Test.YtgmapdcdmomioaaGreatDoorPdD
set_option linter.all false
set_option linter.all false
set_option autoImplicit false
set_option maxRecDepth 100000
namespace Go.Proofs.YtgmapdcdmomioaaGreatDoor.Pa
open Go Go.Proofs.YtgmapdcdmomioaaGreatDoor.Am
mutual
theorem eqTy_refl : ∀ x : Ty, eqTy x x = true
  | .mk k s n a => by simp [eqTy, eqTys_refl a]
theorem eqTys_refl : ∀ x : List Ty, eqTys x x = true
  | [] => rfl
  | x :: xs => by simp [eqTys, eqTy_refl x, eqTys_refl xs]
end
mutual
theorem eqPt_refl (pl : Bool) : ∀ x : Pt, eqPt pl x x = true
  | .mk k s n a p => by simp [eqPt, eqPts_refl pl a]
theorem eqPts_refl (pl : Bool) : ∀ x : List Pt, eqPts pl x x = true
  | [] => rfl
  | x :: xs => by simp [eqPts, eqPt_refl pl x, eqPts_refl pl xs]
end
mutual
theorem eqEx_refl (pl : Bool) : ∀ x : Ex', eqEx pl x x = true
  | .mk k s r n a b p => by simp [eqEx, eqExs_refl pl a, eqPts_refl pl b]
theorem eqExs_refl (pl : Bool) : ∀ x : List Ex', eqExs pl x x = true
  | [] => rfl
  | x :: xs => by simp [eqExs, eqEx_refl pl x, eqExs_refl pl xs]
end
theorem eqBy_refl {α : Type} {f : α → α → Bool} (h : ∀ x, f x x = true) : ∀ xs, eqBy f xs xs = true
  | [] => rfl
  | x :: xs => by simp [eqBy, h x, eqBy_refl h xs]
theorem eqCn_refl (x : Cn) : eqCn x x = true := by simp [eqCn, eqTys_refl]
theorem eqDc_refl (pl : Bool) (x : Dc) : eqDc pl x x = true := by
  simp [eqDc, eqBy_refl eqCn_refl, eqBy_refl (f := fun a b : Str => a == b) (by simp)]
theorem eqPg_refl (pl : Bool) (x : Pg) : eqPg pl x x = true := by
  simp [eqPg, eqBy_refl (eqDc_refl pl), eqEx_refl]
theorem parseSameLaw (x y : Dat) (g : Glob) (hx : HasTy TT 29 x) (hy : HasTy TT 29 y) (Qf : Out → Glob → Prop) (hQ : Qf (.val (.d (.bool true))) g) : EvF TT 6 [x, y] g Qf := by
  refine w6 hx hy ?_
  refine large_ok x g hx _ fun b => ⟨_, rfl, Br_iff.2 ⟨fun _ => wakes_ok g _ ⟨_, rfl, hQ⟩, fun _ => ?_⟩⟩
  refine large_ok y g hy _ fun b => ⟨_, rfl, Br_iff.2 ⟨fun _ => wakes_ok g _ ⟨_, rfl, hQ⟩, fun _ => ?_⟩⟩
  refine copy_ok x g hx _ fun a ha ea => ⟨a, ha, rfl, ?_⟩
  refine copy_ok y g hy _ fun b hb eb => ⟨b, hb, rfl, ?_⟩
  refine parseSame_ok a b g ha hb _ ⟨_, rfl, ?_⟩
  refine refSame_ok false x y g hx hy _ ⟨_, rfl, ?_⟩
  rw [ea, eb]
  refine Br_iff.2 ⟨fun _ => ?_, fun h => by simp at h⟩
  refine copy_ok x g hx _ fun c hc ec => ⟨c, hc, rfl, ?_⟩
  refine copy_ok x g hx _ fun d hd ed => ⟨d, hd, rfl, ?_⟩
  refine parseSame_ok c d g hc hd _ ⟨_, rfl, ?_⟩
  rw [ec, ed, eqPg_refl]
  exact Br_iff.2 ⟨fun _ => wakes_ok g _ ⟨_, rfl, hQ⟩, fun h => by cases h⟩
end Go.Proofs.YtgmapdcdmomioaaGreatDoor.Pa
