/- What functions of the program do, printed by wip/tools/sx/sx.py. Useful: the document's asking: how rows are turned, which constructors there are. Useful: the document's asking. -/
import Derived.Test.YtiheejdkkjfenaaGreatDoorSH
set_option linter.all false
set_option autoImplicit false
set_option maxRecDepth 100000
namespace Go.Proofs.YtiheejdkkjfenaaGreatDoor.Pa
open Go Go.Proofs.YtiheejdkkjfenaaGreatDoor.Am
def lo3:List CutI:=[]
theorem w3{x0:Dat}{g:Glob}{Qf:OGP}(h0:HasTy TT 28 x0)
 (h:EvF TT 7 [x0] g (KQ Qf λv g'=>∃b,v=.d (.bool b)∧Br b (EvF TT 9 [] g' (KQ Qf λv g'=>∃b,v=.d (.bool b)∧Qf (.val (.d (.bool b))) g')) (EvF TT 8 [x0] g' (KQ Qf λv g'=>∃n,v=.d (.int .i64 n)∧Br (decide (600<n)) (EvF TT 9 [] g' (KQ Qf λv g'=>∃b,v=.d (.bool b)∧Qf (.val (.d (.bool b))) g')) (EvF TT 10 [x0] g' (KQ Qf λv g'=>∃x,HasTy TT 28 x∧v=.d x∧EvF TT 11 [x] g' (KQ Qf λv g'=>∃x_1,HasTy TT 35 x_1∧v=.d x_1∧EvF TT 12 [x0] g' (KQ Qf λv g'=>∃n n_1,RetT v [.int .i64 n,.int .i64 n_1]∧Br (intOf (fld x_1 0)==n) (Br (intOf (fld x_1 1)==n_1) (EvF TT 13 [x,x0,.bool true] g' (KQ Qf λv g'=>∃b,v=.d (.bool b)∧Br b (EvF TT 9 [] g' (KQ Qf λv g'=>∃b,v=.d (.bool b)∧Qf (.val (.d (.bool b))) g')) (Qf (.val (.d (.bool false))) g'))) (Qf (.val (.d (.bool false))) g')) (Qf (.val (.d (.bool false))) g'))))))))):
 EvF TT 3 [x0] g Qf:=
 sx_fun (rk:=rk) (fn:=Tryz.f3) (loops:=lo3) (joins:=[]) (n:=100000) (args:=[(28,x0)]) rfl rfl rfl rfl ⟨h0,trivial⟩ (by kernel_rfl) h
end Go.Proofs.YtiheejdkkjfenaaGreatDoor.Pa
namespace Go.Proofs.YtiheejdkkjfenaaGreatDoor.Pa
open Go Go.Proofs.YtiheejdkkjfenaaGreatDoor.Am
end Go.Proofs.YtiheejdkkjfenaaGreatDoor.Pa
namespace Go.Proofs.YtiheejdkkjfenaaGreatDoor.Pa
open Go Go.Proofs.YtiheejdkkjfenaaGreatDoor.Am
section
variable{l X Y:Dat}{f m p0:Nat}{g:Glob}{x:Pt}{r:List Pt}{Qf:OGP}
end
end Go.Proofs.YtiheejdkkjfenaaGreatDoor.Pa
