/- A word of a kind, as the program asks it, is what the document says. What functions of the program do, printed by wip/tools/sx/sx.py. Which trees may be: the program's questions. Operations' signs, functions over slices. Which types and patterns may be: the program's tests, the document's. Which expressions may be: the program's tests, the document's. -/
import Derived.Test.YtiheejdkkjfenaaGreatDoorRG
import Derived.Test.YtiheejdkkjfenaaGreatDoorRE
set_option linter.all false
set_option autoImplicit false
set_option maxRecDepth 100000
namespace Go.Proofs.YtiheejdkkjfenaaGreatDoor.Pa
open Go Go.Proofs.YtiheejdkkjfenaaGreatDoor.Am
section
variable{s:Str}{g:Glob}{Qf:OGP}
end
end Go.Proofs.YtiheejdkkjfenaaGreatDoor.Pa
namespace Go.Proofs.YtiheejdkkjfenaaGreatDoor.Pa
open Go Go.Proofs.YtiheejdkkjfenaaGreatDoor.Am
def L123_2(x0:Dat)(f1:FuncId)(c1:List Dat)(n7:Int)(n8:Int)(g:Glob)(Qf:OGP):Prop:=CutP TT Tryz.f123 [1,0,1,0] Qf (mkC TT 123 Tryz.f123 2 [(0,.v 24 (x0)),(1,.v 78 (.clo f1 c1)),(7,.v 3 (.int .i64 n7)),(8,.v 3 (.int .i64 n8))] [] g)
def lo123:List CutI:=[⟨2,[(0,.keep),(1,.keep),(7,.keep),(8,.keep)],[]⟩]
theorem w123{x0:Dat}{f1:FuncId}{c1:List Dat}{g:Glob}{Qf:OGP}(h0:HasTy TT 24 x0)
 (h:L123_2 x0 f1 c1 (↑(elsOf x0).length:Int) 0 g Qf):
 EvF TT 123 [x0,.clo f1 c1] g Qf:=
 sx_fun (rk:=rk) (fn:=Tryz.f123) (loops:=lo123) (joins:=[]) (n:=100000) (args:=[(24,x0),(78,.clo f1 c1)]) rfl rfl rfl rfl ⟨h0,tyClo rfl,trivial⟩ (by kernel_rfl) h
theorem w123_2{x0:Dat}{f1:FuncId}{c1:List Dat}{n7:Int}{n8:Int}{g:Glob}{Qf:OGP}
 (h:Br (decide (n8<n7)) (InB n8 (elsOf x0).length∧EvF TT f1 (getE (elsOf x0) n8::c1) g (KQ Qf λv g'=>∃b,v=.d (.bool b)∧Br b (Qf (.val (.d (.int .i64 n8))) g') (L123_2 x0 f1 c1 n7 (IntKind.i64.wrap (n8+1)) g' Qf))) (Qf (.val (.d (.int .i64 (-1)))) g)):
 L123_2 x0 f1 c1 n7 n8 g Qf:=sx_cut (rk:=rk) (loops:=lo123) (joins:=[]) (n:=100000) (by kernel_rfl) h
def lo77:List CutI:=[]
theorem w77{x0:Dat}{f1:FuncId}{c1:List Dat}{g:Glob}{Qf:OGP}(h0:HasTy TT 24 x0)
 (h:EvF TT 123 [x0,.clo f1 c1] g (KQ Qf λv g'=>∃n,v=.d (.int .i64 n)∧Qf (.val (.d (.bool (decide (0≤n))))) g')):
 EvF TT 77 [x0,.clo f1 c1] g Qf:=
 sx_fun (rk:=rk) (fn:=Tryz.f77) (loops:=lo77) (joins:=[]) (n:=100000) (args:=[(24,x0),(78,.clo f1 c1)]) rfl rfl rfl rfl ⟨h0,tyClo rfl,trivial⟩ (by kernel_rfl) h
end Go.Proofs.YtiheejdkkjfenaaGreatDoor.Pa
namespace Go.Proofs.YtiheejdkkjfenaaGreatDoor.Pa
open Go Go.Proofs.YtiheejdkkjfenaaGreatDoor.Am
section
variable{s:Str}{g:Glob}{Qf:OGP}
end
end Go.Proofs.YtiheejdkkjfenaaGreatDoor.Pa
namespace Go.Proofs.YtiheejdkkjfenaaGreatDoor.Pa
open Go Go.Proofs.YtiheejdkkjfenaaGreatDoor.Am
mutual
def vrTy:Ty→Bool
 |.mk _ s _ a=>decide (s.length<2^40)&&vrTys a
def vrTys:List Ty→Bool
 |[]=>true
 |x::l=>vrTy x&&vrTys l
end
end Go.Proofs.YtiheejdkkjfenaaGreatDoor.Pa
namespace Go.Proofs.YtiheejdkkjfenaaGreatDoor.Pa
open Go Go.Proofs.YtiheejdkkjfenaaGreatDoor.Am
end Go.Proofs.YtiheejdkkjfenaaGreatDoor.Pa
