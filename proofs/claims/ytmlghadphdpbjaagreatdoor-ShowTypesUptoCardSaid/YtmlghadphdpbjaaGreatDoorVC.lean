/- What functions of the program do, printed by wip/tools/sx/sx.py. Proved: what was written is read as the program that it was (the laws ShowBack, ShowAgain). -/
import Derived.Test.YtmlghadphdpbjaaGreatDoorVB
import Derived.Test.YtmlghadphdpbjaaGreatDoorSE
set_option linter.all false
set_option autoImplicit false
set_option maxRecDepth 100000
namespace Go.Proofs.YtmlghadphdpbjaaGreatDoor.Pa
open Go Go.Proofs.YtmlghadphdpbjaaGreatDoor.Am
def lo4:List CutI:=[]
theorem w4{x0:Dat}{g:Glob}{Qf:OGP}(h0:HasTy TT 28 x0)
 (h:EvF TT 9 [x0] g (KQ Qf λv g'=>∃b,v=.d (.bool b)∧Br b (EvF TT 10 [] g' (KQ Qf λv g'=>∃b,v=.d (.bool b)∧Qf (.val (.d (.bool b))) g')) (EvF TT 15 [x0] g' (KQ Qf λv g'=>∃x,HasTy TT 28 x∧v=.d x∧EvF TT 14 [x] g' (KQ Qf λv g'=>∃s,s.length.le 1099511627776∧∃n,RetT v [.str s,.int .i64 n]∧Br (n !=0) (Br (n==0) (EvF TT 10 [] g' (KQ Qf λv g'=>∃b,v=.d (.bool b)∧Qf (.val (.d (.bool b))) g')) (Br (s==[]) (EvF TT 10 [] g' (KQ Qf λv g'=>∃b,v=.d (.bool b)∧Qf (.val (.d (.bool b))) g')) (Qf (.val (.d (.bool false))) g'))) (Br (decide (4000<(↑s.length:Int))) (Br (n==0) (EvF TT 10 [] g' (KQ Qf λv g'=>∃b,v=.d (.bool b)∧Qf (.val (.d (.bool b))) g')) (Br (s==[]) (EvF TT 10 [] g' (KQ Qf λv g'=>∃b,v=.d (.bool b)∧Qf (.val (.d (.bool b))) g')) (Qf (.val (.d (.bool false))) g'))) ((15+s.length).le 1099511627776∧((116::121::112::101::32::116::32::39::97::32::61::32::67::32::40::s).length+4).le 1099511627776∧EvF TT 17 [.str (116::121::112::101::32::116::32::39::97::32::61::32::67::32::40::s++[41,59,32,49])] g' (KQ Qf λv g'=>∃x,HasTy TT 44 x∧∃n n_1,RetT v [x,.int .i64 n,.int .i64 n_1]∧Br (n_1 !=0) (Br (n_1==3) (EvF TT 10 [] g' (KQ Qf λv g'=>∃b,v=.d (.bool b)∧Qf (.val (.d (.bool b))) g')) (Br (n_1==4) (EvF TT 10 [] g' (KQ Qf λv g'=>∃b,v=.d (.bool b)∧Qf (.val (.d (.bool b))) g')) (Qf (.val (.d (.bool false))) g'))) (Br ((↑(elsOf (fld x 0)).length:Int)==1) (InB 0 (elsOf (fld x 0)).length∧Br ((↑(elsOf (fld (getE (elsOf (fld x 0)) 0) 2)).length:Int)==1) (InB 0 (elsOf (fld x 0)).length∧InB 0 (elsOf (fld (getE (elsOf (fld x 0)) 0) 2)).length∧Br ((↑(elsOf (fld (getE (elsOf (fld (getE (elsOf (fld x 0)) 0) 2)) 0) 1)).length:Int)==1) (InB 0 (elsOf (fld x 0)).length∧InB 0 (elsOf (fld (getE (elsOf (fld x 0)) 0) 2)).length∧InB 0 (elsOf (fld (getE (elsOf (fld (getE (elsOf (fld x 0)) 0) 2)) 0) 1)).length∧EvF TT 18 [getE (elsOf (fld (getE (elsOf (fld (getE (elsOf (fld x 0)) 0) 2)) 0) 1)) 0,x0] g' (KQ Qf λv g'=>∃b,v=.d (.bool b)∧Br b (EvF TT 10 [] g' (KQ Qf λv g'=>∃b,v=.d (.bool b)∧Qf (.val (.d (.bool b))) g')) (Qf (.val (.d (.bool false))) g'))) (Qf (.val (.d (.bool false))) g')) (Qf (.val (.d (.bool false))) g')) (Qf (.val (.d (.bool false))) g')))))))))):
 EvF TT 4 [x0] g Qf:=
 sx_fun (rk:=rk) (fn:=Tryz.f4) (loops:=lo4) (joins:=[]) (n:=100000) (args:=[(28,x0)]) rfl rfl rfl rfl ⟨h0,trivial⟩ (by kernel_rfl) h
def lo18:List CutI:=[]
theorem w18{x0:Dat}{x1:Dat}{g:Glob}{Qf:OGP}(h0:HasTy TT 28 x0)(h1:HasTy TT 28 x1)
 (h:EvF TT 39 [.sl 4 [x0],.sl 4 [x1]] g (KQ Qf λv g'=>∃b,v=.d (.bool b)∧Qf (.val (.d (.bool b))) g')):
 EvF TT 18 [x0,x1] g Qf:=
 sx_fun (rk:=rk) (fn:=Tryz.f18) (loops:=lo18) (joins:=[]) (n:=100000) (args:=[(28,x0),(28,x1)]) rfl rfl rfl rfl ⟨h0,h1,trivial⟩ (by kernel_rfl) h
end Go.Proofs.YtmlghadphdpbjaaGreatDoor.Pa
namespace Go.Proofs.YtmlghadphdpbjaaGreatDoor.Pa
open Go Go.Proofs.YtmlghadphdpbjaaGreatDoor.Am
end Go.Proofs.YtmlghadphdpbjaaGreatDoor.Pa
