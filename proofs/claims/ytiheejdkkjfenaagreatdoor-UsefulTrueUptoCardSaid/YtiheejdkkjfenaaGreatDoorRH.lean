/- A word of a kind, as the program asks it, is what the document says. What functions of the program do, printed by wip/tools/sx/sx.py. Which trees may be: the program's questions. Operations' signs, functions over slices. Which types and patterns may be: the program's tests, the document's. Which expressions may be: the program's tests, the document's. -/
import Derived.Test.YtiheejdkkjfenaaGreatDoorRG
import Derived.Test.YtiheejdkkjfenaaGreatDoorRE
set_option linter.all false
set_option autoImplicit false
set_option maxRecDepth 100000
namespace Go.Proofs.YtiheejdkkjfenaaGreatDoor.Pa
open Go Go.Proofs.YtiheejdkkjfenaaGreatDoor.Am
section
variable{s:Str}{g:Glob}{Qf:OGP}
end
end Go.Proofs.YtiheejdkkjfenaaGreatDoor.Pa
namespace Go.Proofs.YtiheejdkkjfenaaGreatDoor.Pa
open Go Go.Proofs.YtiheejdkkjfenaaGreatDoor.Am
def L123_2(x0:Dat)(f1:FuncId)(c1:List Dat)(n7:Int)(n8:Int)(g:Glob)(Qf:OGP):Prop:=CutP TT Tryz.f123 [1,0,1,0] Qf (mkC TT 123 Tryz.f123 2 [(0,.v 24 (x0)),(1,.v 78 (.clo f1 c1)),(7,.v 3 (.int .i64 n7)),(8,.v 3 (.int .i64 n8))] [] g)
def lo123:List CutI:=[⟨2,[(0,.keep),(1,.keep),(7,.keep),(8,.keep)],[]⟩]
theorem w123{x0:Dat}{f1:FuncId}{c1:List Dat}{g:Glob}{Qf:OGP}(h0:HasTy TT 24 x0)
 (h:L123_2 x0 f1 c1 (↑(elsOf x0).length:Int) 0 g Qf):
 EvF TT 123 [x0,.clo f1 c1] g Qf:=
 sx_fun (rk:=rk) (fn:=Tryz.f123) (loops:=lo123) (joins:=[]) (n:=100000) (args:=[(24,x0),(78,.clo f1 c1)]) rfl rfl rfl rfl ⟨h0,tyClo rfl,trivial⟩ (by kernel_rfl) h
theorem w123_2{x0:Dat}{f1:FuncId}{c1:List Dat}{n7:Int}{n8:Int}{g:Glob}{Qf:OGP}
 (h:Br (decide (n8<n7)) (InB n8 (elsOf x0).length∧EvF TT f1 (getE (elsOf x0) n8::c1) g (KQ Qf λv g'=>∃b,v=.d (.bool b)∧Br b (Qf (.val (.d (.int .i64 n8))) g') (L123_2 x0 f1 c1 n7 (IntKind.i64.wrap (n8+1)) g' Qf))) (Qf (.val (.d (.int .i64 (-1)))) g)):
 L123_2 x0 f1 c1 n7 n8 g Qf:=sx_cut (rk:=rk) (loops:=lo123) (joins:=[]) (n:=100000) (by kernel_rfl) h
def lo77:List CutI:=[]
theorem w77{x0:Dat}{f1:FuncId}{c1:List Dat}{g:Glob}{Qf:OGP}(h0:HasTy TT 24 x0)
 (h:EvF TT 123 [x0,.clo f1 c1] g (KQ Qf λv g'=>∃n,v=.d (.int .i64 n)∧Qf (.val (.d (.bool (decide (0≤n))))) g')):
 EvF TT 77 [x0,.clo f1 c1] g Qf:=
 sx_fun (rk:=rk) (fn:=Tryz.f77) (loops:=lo77) (joins:=[]) (n:=100000) (args:=[(24,x0),(78,.clo f1 c1)]) rfl rfl rfl rfl ⟨h0,tyClo rfl,trivial⟩ (by kernel_rfl) h
def L194_4(n3:Int)(y1:Dat)(g:Glob)(Qf:OGP):Prop:=CutP TT Tryz.f194 [1,1,0,1,0] Qf (mkC TT 194 Tryz.f194 1 [(1,.loc 1 0 0),(3,.v 3 (.int .i64 n3))] [(1,.whole 52 y1)] g)
def lo194:List CutI:=[⟨4,[(1,.keep),(3,.keep)],[(1,.whole 52)]⟩]
theorem w194{x0:Dat}{g:Glob}{Qf:OGP}(h0:HasTy TT 52 x0)
 (h:Br (intOf (fld x0 0)==4) (Br (decide (8<(↑(elsOf (fld x0 3)).length:Int))) (Qf (.val (.d (.bool true))) g) (L194_4 0 x0 g Qf)) (L194_4 0 x0 g Qf)):
 EvF TT 194 [x0] g Qf:=
 sx_fun (rk:=rk) (fn:=Tryz.f194) (loops:=lo194) (joins:=[]) (n:=100000) (args:=[(52,x0)]) rfl rfl rfl rfl ⟨h0,trivial⟩ (by kernel_rfl) h
theorem w194_4{n3:Int}{y1:Dat}{g:Glob}{Qf:OGP}
 (h:Br (decide (n3<(↑(elsOf (fld y1 3)).length:Int))) (InB n3 (elsOf (fld y1 3)).length∧EvF TT 194 [getE (elsOf (fld y1 3)) n3] g (KQ Qf λv g'=>∃b,v=.d (.bool b)∧Br b (Qf (.val (.d (.bool true))) g') (L194_4 (IntKind.i64.wrap (n3+1)) y1 g' Qf))) (Qf (.val (.d (.bool false))) g)):
 L194_4 n3 y1 g Qf:=sx_cut (rk:=rk) (loops:=lo194) (joins:=[]) (n:=100000) (by kernel_rfl) h
def L140_4(n3:Int)(y1:Dat)(g:Glob)(Qf:OGP):Prop:=CutP TT Tryz.f140 [1,1,0,1,0] Qf (mkC TT 140 Tryz.f140 1 [(1,.loc 1 0 0),(3,.v 3 (.int .i64 n3))] [(1,.whole 26 y1)] g)
def L140_9(n4:Int)(y1:Dat)(g:Glob)(Qf:OGP):Prop:=CutP TT Tryz.f140 [1,1,1,0,1,0] Qf (mkC TT 140 Tryz.f140 1 [(1,.loc 1 0 0),(4,.v 3 (.int .i64 n4))] [(1,.whole 26 y1)] g)
def lo140:List CutI:=[⟨4,[(1,.keep),(3,.keep)],[(1,.whole 26)]⟩,⟨9,[(1,.keep),(4,.keep)],[(1,.whole 26)]⟩]
theorem w140{x0:Dat}{g:Glob}{Qf:OGP}(h0:HasTy TT 26 x0)
 (h:Br (intOf (fld x0 0)==8) (Br (decide (8<(↑(elsOf (fld x0 4)).length:Int))) (Qf (.val (.d (.bool true))) g) (L140_4 0 x0 g Qf)) (L140_4 0 x0 g Qf)):
 EvF TT 140 [x0] g Qf:=
 sx_fun (rk:=rk) (fn:=Tryz.f140) (loops:=lo140) (joins:=[]) (n:=100000) (args:=[(26,x0)]) rfl rfl rfl rfl ⟨h0,trivial⟩ (by kernel_rfl) h
theorem w140_4{n3:Int}{y1:Dat}{g:Glob}{Qf:OGP}
 (h:Br (decide (n3<(↑(elsOf (fld y1 5)).length:Int))) (InB n3 (elsOf (fld y1 5)).length∧EvF TT 194 [getE (elsOf (fld y1 5)) n3] g (KQ Qf λv g'=>∃b,v=.d (.bool b)∧Br b (Qf (.val (.d (.bool true))) g') (L140_4 (IntKind.i64.wrap (n3+1)) y1 g' Qf))) (L140_9 0 y1 g Qf)):
 L140_4 n3 y1 g Qf:=sx_cut (rk:=rk) (loops:=lo140) (joins:=[]) (n:=100000) (by kernel_rfl) h
theorem w140_9{n4:Int}{y1:Dat}{g:Glob}{Qf:OGP}
 (h:Br (decide (n4<(↑(elsOf (fld y1 4)).length:Int))) (InB n4 (elsOf (fld y1 4)).length∧EvF TT 140 [getE (elsOf (fld y1 4)) n4] g (KQ Qf λv g'=>∃b,v=.d (.bool b)∧Br b (Qf (.val (.d (.bool true))) g') (L140_9 (IntKind.i64.wrap (n4+1)) y1 g' Qf))) (Qf (.val (.d (.bool false))) g)):
 L140_9 n4 y1 g Qf:=sx_cut (rk:=rk) (loops:=lo140) (joins:=[]) (n:=100000) (by kernel_rfl) h
def L87_5(b3:Bool)(n4:Int)(y1:Dat)(g:Glob)(Qf:OGP):Prop:=CutP TT Tryz.f87 [1,1,1,0,1,0] Qf (mkC TT 87 Tryz.f87 1 [(1,.loc 1 0 0),(3,.v 4 (.bool b3)),(4,.v 3 (.int .i64 n4))] [(1,.whole 28 y1)] g)
def L87_11(b3:Bool)(n4:Int)(n6:Int)(y5:Dat)(y1:Dat)(g:Glob)(Qf:OGP):Prop:=CutP TT Tryz.f87 [1,1,1,0,1,0,0,1,0,0,1,1,1,0] Qf (mkC TT 87 Tryz.f87 1 [(1,.loc 1 0 0),(3,.v 4 (.bool b3)),(4,.v 3 (.int .i64 n4)),(5,.loc 5 0 0),(6,.v 3 (.int .i64 n6))] [(5,.whole 84 y5),(1,.whole 28 y1)] g)
def L87_16(b3:Bool)(n4:Int)(n6:Int)(n7:Int)(y5:Dat)(y1:Dat)(g:Glob)(Qf:OGP):Prop:=CutP TT Tryz.f87 [1,1,1,0,1,0,0,1,0,0,1,1,1,0,0,1,0,0,1,1,0] Qf (mkC TT 87 Tryz.f87 1 [(1,.loc 1 0 0),(3,.v 4 (.bool b3)),(4,.v 3 (.int .i64 n4)),(5,.loc 5 0 0),(6,.v 3 (.int .i64 n6)),(7,.v 3 (.int .i64 n7))] [(5,.whole 84 y5),(1,.whole 28 y1)] g)
def lo87:List CutI:=[⟨5,[(1,.keep),(3,.keep),(4,.keep)],[(1,.whole 28)]⟩,⟨11,[(1,.keep),(3,.keep),(4,.keep),(5,.keep),(6,.keep)],[(5,.whole 84),(1,.whole 28)]⟩,⟨16,[(1,.keep),(3,.keep),(4,.keep),(5,.keep),(6,.keep),(7,.keep)],[(5,.whole 84),(1,.whole 28)]⟩]
theorem w87{x0:Dat}{g:Glob}{Qf:OGP}(h0:HasTy TT 28 x0)
 (h:Br (decide (32<(↑(elsOf (fld x0 0)).length:Int))) (Qf (.val (.d (.int .i64 3))) g) (EvF TT 8 [x0] g (KQ Qf λv g'=>∃n,v=.d (.int .i64 n)∧Br (decide (2048<n)) (Qf (.val (.d (.int .i64 3))) g') (EvF TT 140 [sub x0 1 7] g' (KQ Qf λv g'=>∃b,v=.d (.bool b)∧Br b (Qf (.val (.d (.int .i64 3))) g') (EvF TT 141 [sub x0 1 7,.int .i64 256] g' (KQ Qf λv g'=>∃b,v=.d (.bool b)∧L87_5 b 0 x0 g' Qf))))))):
 EvF TT 87 [x0] g Qf:=
 sx_fun (rk:=rk) (fn:=Tryz.f87) (loops:=lo87) (joins:=[]) (n:=100000) (args:=[(28,x0)]) rfl rfl rfl rfl ⟨h0,trivial⟩ (by kernel_rfl) h
theorem w87_5{b3:Bool}{n4:Int}{y1:Dat}{g:Glob}{Qf:OGP}
 (h:Br (decide (n4<(↑(elsOf (fld y1 0)).length:Int))) (InB n4 (elsOf (fld y1 0)).length∧Br (decide (4<(↑(elsOf (fld (getE (elsOf (fld y1 0)) n4) 1)).length:Int))) (Qf (.val (.d (.int .i64 3))) g) (Br (decide (32<(↑(elsOf (fld (getE (elsOf (fld y1 0)) n4) 2)).length:Int))) (Qf (.val (.d (.int .i64 3))) g) (L87_11 b3 n4 0 (getE (elsOf (fld y1 0)) n4) y1 g Qf))) (Br b3 (Qf (.val (.d (.int .i64 4))) g) (Qf (.val (.d (.int .i64 0))) g))):
 L87_5 b3 n4 y1 g Qf:=sx_cut (rk:=rk) (loops:=lo87) (joins:=[]) (n:=100000) (by kernel_rfl) h
theorem w87_11{b3:Bool}{n4:Int}{n6:Int}{y5:Dat}{y1:Dat}{g:Glob}{Qf:OGP}
 (h:Br (decide (n6<(↑(elsOf (fld y5 2)).length:Int))) (InB n6 (elsOf (fld y5 2)).length∧Br (decide (8<(↑(elsOf (fld (getE (elsOf (fld y5 2)) n6) 1)).length:Int))) (Qf (.val (.d (.int .i64 3))) g) (L87_16 b3 n4 n6 0 y5 y1 g Qf)) (L87_5 b3 (IntKind.i64.wrap (n4+1)) y1 g Qf)):
 L87_11 b3 n4 n6 y5 y1 g Qf:=sx_cut (rk:=rk) (loops:=lo87) (joins:=[]) (n:=100000) (by kernel_rfl) h
theorem w87_16{b3:Bool}{n4:Int}{n6:Int}{n7:Int}{y5:Dat}{y1:Dat}{g:Glob}{Qf:OGP}
 (h:InB n6 (elsOf (fld y5 2)).length∧Br (decide (n7<(↑(elsOf (fld (getE (elsOf (fld y5 2)) n6) 1)).length:Int))) (Br b3 (L87_16 true n4 n6 (IntKind.i64.wrap (n7+1)) y5 y1 g Qf) (InB n6 (elsOf (fld y5 2)).length∧InB n7 (elsOf (fld (getE (elsOf (fld y5 2)) n6) 1)).length∧EvF TT 85 [getE (elsOf (fld (getE (elsOf (fld y5 2)) n6) 1)) n7,.int .i64 256] g (KQ Qf λv g'=>∃b,v=.d (.bool b)∧L87_16 b n4 n6 (IntKind.i64.wrap (n7+1)) y5 y1 g' Qf))) (L87_11 b3 n4 (IntKind.i64.wrap (n6+1)) y5 y1 g Qf)):
 L87_16 b3 n4 n6 n7 y5 y1 g Qf:=sx_cut (rk:=rk) (loops:=lo87) (joins:=[]) (n:=100000) (by kernel_rfl) h
def L143_12(b3:Bool)(n4:Int)(y1:Dat)(g:Glob)(Qf:OGP):Prop:=CutP TT Tryz.f143 [1,1,1,0,1,0] Qf (mkC TT 143 Tryz.f143 1 [(1,.loc 1 0 0),(3,.v 4 (.bool b3)),(4,.v 3 (.int .i64 n4))] [(1,.whole 52 y1)] g)
def lo143:List CutI:=[⟨12,[(1,.keep),(3,.keep),(4,.keep)],[(1,.whole 52)]⟩]
theorem w143{x0:Dat}{g:Glob}{Qf:OGP}(h0:HasTy TT 52 x0)
 (h:Br (intOf (fld x0 0)==1) (Br (strOf (fld x0 1)==[]) (Br (intOf (fld x0 2)==0) (L143_12 ((↑(elsOf (fld x0 3)).length:Int)==0) 0 x0 g Qf) (L143_12 false 0 x0 g Qf)) (L143_12 false 0 x0 g Qf)) (Br (intOf (fld x0 0)==2) (EvF TT 82 [.str (strOf (fld x0 1))] g (KQ Qf λv g'=>∃b,v=.d (.bool b)∧Br b (Br (intOf (fld x0 2)==0) (L143_12 ((↑(elsOf (fld x0 3)).length:Int)==0) 0 x0 g' Qf) (L143_12 false 0 x0 g' Qf)) (L143_12 false 0 x0 g' Qf))) (Br (intOf (fld x0 0)==3) (Br (strOf (fld x0 1)==[]) (EvF TT 196 [.int .i64 (intOf (fld x0 2))] g (KQ Qf λv g'=>∃b,v=.d (.bool b)∧Br b (L143_12 ((↑(elsOf (fld x0 3)).length:Int)==0) 0 x0 g' Qf) (L143_12 false 0 x0 g' Qf))) (L143_12 false 0 x0 g Qf)) (Br (intOf (fld x0 0)==4) (EvF TT 84 [.str (strOf (fld x0 1))] g (KQ Qf λv g'=>∃b,v=.d (.bool b)∧Br b (L143_12 (intOf (fld x0 2)==0) 0 x0 g' Qf) (L143_12 false 0 x0 g' Qf))) (L143_12 false 0 x0 g Qf))))):
 EvF TT 143 [x0] g Qf:=
 sx_fun (rk:=rk) (fn:=Tryz.f143) (loops:=lo143) (joins:=[]) (n:=100000) (args:=[(52,x0)]) rfl rfl rfl rfl ⟨h0,trivial⟩ (by kernel_rfl) h
theorem w143_12{b3:Bool}{n4:Int}{y1:Dat}{g:Glob}{Qf:OGP}
 (h:Br (decide (n4<(↑(elsOf (fld y1 3)).length:Int))) (Br b3 (InB n4 (elsOf (fld y1 3)).length∧EvF TT 143 [getE (elsOf (fld y1 3)) n4] g (KQ Qf λv g'=>∃b,v=.d (.bool b)∧L143_12 b (IntKind.i64.wrap (n4+1)) y1 g' Qf)) (Qf (.val (.d (.bool b3))) g)) (Qf (.val (.d (.bool b3))) g)):
 L143_12 b3 n4 y1 g Qf:=sx_cut (rk:=rk) (loops:=lo143) (joins:=[]) (n:=100000) (by kernel_rfl) h
def lo142:List CutI:=[]
theorem w142{x0:Dat}{g:Glob}{Qf:OGP}(h0:HasTy TT 26 x0)
 (h:Br (intOf (fld x0 0)!=6)
 (Br (!strOf (fld x0 2)==[]) (Qf (.val (.d (.bool false))) g)
  (Br (intOf (fld x0 0)!=2)
   (Br (intOf (fld x0 3)!=0) (Qf (.val (.d (.bool false))) g)
    (Br (intOf (fld x0 0)!=7) (Br (decide (0<(↑(elsOf (fld x0 5)).length:Int))) (Qf (.val (.d (.bool false))) g) (Br (intOf (fld x0 0)==1) (EvF TT 82 [.str (strOf (fld x0 1))] g (KQ Qf λv g'=>∃b,v=.d (.bool b)∧Br b (Qf (.val (.d (.bool ((↑(elsOf (fld x0 4)).length:Int)==0)))) g') (Qf (.val (.d (.bool false))) g'))) (Br (intOf (fld x0 0)==2) (Br (strOf (fld x0 1)==[]) (EvF TT 196 [.int .i64 (intOf (fld x0 3))] g (KQ Qf λv g'=>∃b,v=.d (.bool b)∧Br b (Qf (.val (.d (.bool ((↑(elsOf (fld x0 4)).length:Int)==0)))) g') (Qf (.val (.d (.bool false))) g'))) (Qf (.val (.d (.bool false))) g)) (Br (intOf (fld x0 0)==3) (EvF TT 82 [.str (strOf (fld x0 1))] g (KQ Qf λv g'=>∃b,v=.d (.bool b)∧Br b (Qf (.val (.d (.bool ((↑(elsOf (fld x0 4)).length:Int)==1)))) g') (Qf (.val (.d (.bool false))) g'))) (Br (intOf (fld x0 0)==4) (Br (strOf (fld x0 1)==[]) (Qf (.val (.d (.bool ((↑(elsOf (fld x0 4)).length:Int)==2)))) g) (Qf (.val (.d (.bool false))) g)) (Br (intOf (fld x0 0)==5) (EvF TT 82 [.str (strOf (fld x0 1))] g (KQ Qf λv g'=>∃b,v=.d (.bool b)∧Br b (Qf (.val (.d (.bool ((↑(elsOf (fld x0 4)).length:Int)==2)))) g') (Qf (.val (.d (.bool false))) g'))) (Br (intOf (fld x0 0)==6) (EvF TT 82 [.str (strOf (fld x0 1))] g (KQ Qf λv g'=>∃b,v=.d (.bool b)∧Br b (EvF TT 82 [.str (strOf (fld x0 2))] g' (KQ Qf λv g'=>∃b,v=.d (.bool b)∧Br b (Qf (.val (.d (.bool ((↑(elsOf (fld x0 4)).length:Int)==2)))) g') (Qf (.val (.d (.bool false))) g'))) (Qf (.val (.d (.bool false))) g'))) (Br (intOf (fld x0 0)==7) (Br (strOf (fld x0 1)==[]) (Br (decide (0<(↑(elsOf (fld x0 5)).length:Int))) (Qf (.val (.d (.bool ((↑(elsOf (fld x0 4)).length:Int)==IntKind.i64.wrap ((↑(elsOf (fld x0 5)).length:Int)+1))))) g) (Qf (.val (.d (.bool false))) g)) (Qf (.val (.d (.bool false))) g)) (Br (intOf (fld x0 0)==8) (EvF TT 84 [.str (strOf (fld x0 1))] g (KQ Qf λv g'=>∃b,v=.d (.bool b)∧Qf (.val (.d (.bool b))) g')) (Br (intOf (fld x0 0)==9) (EvF TT 197 [.str (strOf (fld x0 1))] g (KQ Qf λv g'=>∃n,v=.d (.int .i64 n)∧Br (decide (0<n)) (Qf (.val (.d (.bool ((↑(elsOf (fld x0 4)).length:Int)==2)))) g') (Qf (.val (.d (.bool false))) g'))) (Br (intOf (fld x0 0)==10) (Br (strOf (fld x0 1)==[]) (Qf (.val (.d (.bool ((↑(elsOf (fld x0 4)).length:Int)==1)))) g) (Qf (.val (.d (.bool false))) g)) (Qf (.val (.d (.bool false))) g))))))))))))
     (Br (intOf (fld x0 0)==1) (EvF TT 82 [.str (strOf (fld x0 1))] g (KQ Qf λv g'=>∃b,v=.d (.bool b)∧Br b (Qf (.val (.d (.bool ((↑(elsOf (fld x0 4)).length:Int)==0)))) g') (Qf (.val (.d (.bool false))) g'))) (Br (intOf (fld x0 0)==2) (Br (strOf (fld x0 1)==[]) (EvF TT 196 [.int .i64 (intOf (fld x0 3))] g (KQ Qf λv g'=>∃b,v=.d (.bool b)∧Br b (Qf (.val (.d (.bool ((↑(elsOf (fld x0 4)).length:Int)==0)))) g') (Qf (.val (.d (.bool false))) g'))) (Qf (.val (.d (.bool false))) g)) (Br (intOf (fld x0 0)==3) (EvF TT 82 [.str (strOf (fld x0 1))] g (KQ Qf λv g'=>∃b,v=.d (.bool b)∧Br b (Qf (.val (.d (.bool ((↑(elsOf (fld x0 4)).length:Int)==1)))) g') (Qf (.val (.d (.bool false))) g'))) (Br (intOf (fld x0 0)==4) (Br (strOf (fld x0 1)==[]) (Qf (.val (.d (.bool ((↑(elsOf (fld x0 4)).length:Int)==2)))) g) (Qf (.val (.d (.bool false))) g)) (Br (intOf (fld x0 0)==5) (EvF TT 82 [.str (strOf (fld x0 1))] g (KQ Qf λv g'=>∃b,v=.d (.bool b)∧Br b (Qf (.val (.d (.bool ((↑(elsOf (fld x0 4)).length:Int)==2)))) g') (Qf (.val (.d (.bool false))) g'))) (Br (intOf (fld x0 0)==6) (EvF TT 82 [.str (strOf (fld x0 1))] g (KQ Qf λv g'=>∃b,v=.d (.bool b)∧Br b (EvF TT 82 [.str (strOf (fld x0 2))] g' (KQ Qf λv g'=>∃b,v=.d (.bool b)∧Br b (Qf (.val (.d (.bool ((↑(elsOf (fld x0 4)).length:Int)==2)))) g') (Qf (.val (.d (.bool false))) g'))) (Qf (.val (.d (.bool false))) g'))) (Br (intOf (fld x0 0)==7) (Br (strOf (fld x0 1)==[]) (Br (decide (0<(↑(elsOf (fld x0 5)).length:Int))) (Qf (.val (.d (.bool ((↑(elsOf (fld x0 4)).length:Int)==IntKind.i64.wrap ((↑(elsOf (fld x0 5)).length:Int)+1))))) g) (Qf (.val (.d (.bool false))) g)) (Qf (.val (.d (.bool false))) g)) (Br (intOf (fld x0 0)==8) (EvF TT 84 [.str (strOf (fld x0 1))] g (KQ Qf λv g'=>∃b,v=.d (.bool b)∧Qf (.val (.d (.bool b))) g')) (Br (intOf (fld x0 0)==9) (EvF TT 197 [.str (strOf (fld x0 1))] g (KQ Qf λv g'=>∃n,v=.d (.int .i64 n)∧Br (decide (0<n)) (Qf (.val (.d (.bool ((↑(elsOf (fld x0 4)).length:Int)==2)))) g') (Qf (.val (.d (.bool false))) g'))) (Br (intOf (fld x0 0)==10) (Br (strOf (fld x0 1)==[]) (Qf (.val (.d (.bool ((↑(elsOf (fld x0 4)).length:Int)==1)))) g) (Qf (.val (.d (.bool false))) g)) (Qf (.val (.d (.bool false))) g)))))))))))))
   (Br (intOf (fld x0 0)!=7) (Br (decide (0<(↑(elsOf (fld x0 5)).length:Int))) (Qf (.val (.d (.bool false))) g) (Br (intOf (fld x0 0)==1) (EvF TT 82 [.str (strOf (fld x0 1))] g (KQ Qf λv g'=>∃b,v=.d (.bool b)∧Br b (Qf (.val (.d (.bool ((↑(elsOf (fld x0 4)).length:Int)==0)))) g') (Qf (.val (.d (.bool false))) g'))) (Br (intOf (fld x0 0)==2) (Br (strOf (fld x0 1)==[]) (EvF TT 196 [.int .i64 (intOf (fld x0 3))] g (KQ Qf λv g'=>∃b,v=.d (.bool b)∧Br b (Qf (.val (.d (.bool ((↑(elsOf (fld x0 4)).length:Int)==0)))) g') (Qf (.val (.d (.bool false))) g'))) (Qf (.val (.d (.bool false))) g)) (Br (intOf (fld x0 0)==3) (EvF TT 82 [.str (strOf (fld x0 1))] g (KQ Qf λv g'=>∃b,v=.d (.bool b)∧Br b (Qf (.val (.d (.bool ((↑(elsOf (fld x0 4)).length:Int)==1)))) g') (Qf (.val (.d (.bool false))) g'))) (Br (intOf (fld x0 0)==4) (Br (strOf (fld x0 1)==[]) (Qf (.val (.d (.bool ((↑(elsOf (fld x0 4)).length:Int)==2)))) g) (Qf (.val (.d (.bool false))) g)) (Br (intOf (fld x0 0)==5) (EvF TT 82 [.str (strOf (fld x0 1))] g (KQ Qf λv g'=>∃b,v=.d (.bool b)∧Br b (Qf (.val (.d (.bool ((↑(elsOf (fld x0 4)).length:Int)==2)))) g') (Qf (.val (.d (.bool false))) g'))) (Br (intOf (fld x0 0)==6) (EvF TT 82 [.str (strOf (fld x0 1))] g (KQ Qf λv g'=>∃b,v=.d (.bool b)∧Br b (EvF TT 82 [.str (strOf (fld x0 2))] g' (KQ Qf λv g'=>∃b,v=.d (.bool b)∧Br b (Qf (.val (.d (.bool ((↑(elsOf (fld x0 4)).length:Int)==2)))) g') (Qf (.val (.d (.bool false))) g'))) (Qf (.val (.d (.bool false))) g'))) (Br (intOf (fld x0 0)==7) (Br (strOf (fld x0 1)==[]) (Br (decide (0<(↑(elsOf (fld x0 5)).length:Int))) (Qf (.val (.d (.bool ((↑(elsOf (fld x0 4)).length:Int)==IntKind.i64.wrap ((↑(elsOf (fld x0 5)).length:Int)+1))))) g) (Qf (.val (.d (.bool false))) g)) (Qf (.val (.d (.bool false))) g)) (Br (intOf (fld x0 0)==8) (EvF TT 84 [.str (strOf (fld x0 1))] g (KQ Qf λv g'=>∃b,v=.d (.bool b)∧Qf (.val (.d (.bool b))) g')) (Br (intOf (fld x0 0)==9) (EvF TT 197 [.str (strOf (fld x0 1))] g (KQ Qf λv g'=>∃n,v=.d (.int .i64 n)∧Br (decide (0<n)) (Qf (.val (.d (.bool ((↑(elsOf (fld x0 4)).length:Int)==2)))) g') (Qf (.val (.d (.bool false))) g'))) (Br (intOf (fld x0 0)==10) (Br (strOf (fld x0 1)==[]) (Qf (.val (.d (.bool ((↑(elsOf (fld x0 4)).length:Int)==1)))) g) (Qf (.val (.d (.bool false))) g)) (Qf (.val (.d (.bool false))) g))))))))))))
    (Br (intOf (fld x0 0)==1) (EvF TT 82 [.str (strOf (fld x0 1))] g (KQ Qf λv g'=>∃b,v=.d (.bool b)∧Br b (Qf (.val (.d (.bool ((↑(elsOf (fld x0 4)).length:Int)==0)))) g') (Qf (.val (.d (.bool false))) g'))) (Br (intOf (fld x0 0)==2) (Br (strOf (fld x0 1)==[]) (EvF TT 196 [.int .i64 (intOf (fld x0 3))] g (KQ Qf λv g'=>∃b,v=.d (.bool b)∧Br b (Qf (.val (.d (.bool ((↑(elsOf (fld x0 4)).length:Int)==0)))) g') (Qf (.val (.d (.bool false))) g'))) (Qf (.val (.d (.bool false))) g)) (Br (intOf (fld x0 0)==3) (EvF TT 82 [.str (strOf (fld x0 1))] g (KQ Qf λv g'=>∃b,v=.d (.bool b)∧Br b (Qf (.val (.d (.bool ((↑(elsOf (fld x0 4)).length:Int)==1)))) g') (Qf (.val (.d (.bool false))) g'))) (Br (intOf (fld x0 0)==4) (Br (strOf (fld x0 1)==[]) (Qf (.val (.d (.bool ((↑(elsOf (fld x0 4)).length:Int)==2)))) g) (Qf (.val (.d (.bool false))) g)) (Br (intOf (fld x0 0)==5) (EvF TT 82 [.str (strOf (fld x0 1))] g (KQ Qf λv g'=>∃b,v=.d (.bool b)∧Br b (Qf (.val (.d (.bool ((↑(elsOf (fld x0 4)).length:Int)==2)))) g') (Qf (.val (.d (.bool false))) g'))) (Br (intOf (fld x0 0)==6) (EvF TT 82 [.str (strOf (fld x0 1))] g (KQ Qf λv g'=>∃b,v=.d (.bool b)∧Br b (EvF TT 82 [.str (strOf (fld x0 2))] g' (KQ Qf λv g'=>∃b,v=.d (.bool b)∧Br b (Qf (.val (.d (.bool ((↑(elsOf (fld x0 4)).length:Int)==2)))) g') (Qf (.val (.d (.bool false))) g'))) (Qf (.val (.d (.bool false))) g'))) (Br (intOf (fld x0 0)==7) (Br (strOf (fld x0 1)==[]) (Br (decide (0<(↑(elsOf (fld x0 5)).length:Int))) (Qf (.val (.d (.bool ((↑(elsOf (fld x0 4)).length:Int)==IntKind.i64.wrap ((↑(elsOf (fld x0 5)).length:Int)+1))))) g) (Qf (.val (.d (.bool false))) g)) (Qf (.val (.d (.bool false))) g)) (Br (intOf (fld x0 0)==8) (EvF TT 84 [.str (strOf (fld x0 1))] g (KQ Qf λv g'=>∃b,v=.d (.bool b)∧Qf (.val (.d (.bool b))) g')) (Br (intOf (fld x0 0)==9) (EvF TT 197 [.str (strOf (fld x0 1))] g (KQ Qf λv g'=>∃n,v=.d (.int .i64 n)∧Br (decide (0<n)) (Qf (.val (.d (.bool ((↑(elsOf (fld x0 4)).length:Int)==2)))) g') (Qf (.val (.d (.bool false))) g'))) (Br (intOf (fld x0 0)==10) (Br (strOf (fld x0 1)==[]) (Qf (.val (.d (.bool ((↑(elsOf (fld x0 4)).length:Int)==1)))) g) (Qf (.val (.d (.bool false))) g)) (Qf (.val (.d (.bool false))) g))))))))))))))
 (Br (intOf (fld x0 0)!=2)
  (Br (intOf (fld x0 3)!=0) (Qf (.val (.d (.bool false))) g)
   (Br (intOf (fld x0 0)!=7) (Br (decide (0<(↑(elsOf (fld x0 5)).length:Int))) (Qf (.val (.d (.bool false))) g) (Br (intOf (fld x0 0)==1) (EvF TT 82 [.str (strOf (fld x0 1))] g (KQ Qf λv g'=>∃b,v=.d (.bool b)∧Br b (Qf (.val (.d (.bool ((↑(elsOf (fld x0 4)).length:Int)==0)))) g') (Qf (.val (.d (.bool false))) g'))) (Br (intOf (fld x0 0)==2) (Br (strOf (fld x0 1)==[]) (EvF TT 196 [.int .i64 (intOf (fld x0 3))] g (KQ Qf λv g'=>∃b,v=.d (.bool b)∧Br b (Qf (.val (.d (.bool ((↑(elsOf (fld x0 4)).length:Int)==0)))) g') (Qf (.val (.d (.bool false))) g'))) (Qf (.val (.d (.bool false))) g)) (Br (intOf (fld x0 0)==3) (EvF TT 82 [.str (strOf (fld x0 1))] g (KQ Qf λv g'=>∃b,v=.d (.bool b)∧Br b (Qf (.val (.d (.bool ((↑(elsOf (fld x0 4)).length:Int)==1)))) g') (Qf (.val (.d (.bool false))) g'))) (Br (intOf (fld x0 0)==4) (Br (strOf (fld x0 1)==[]) (Qf (.val (.d (.bool ((↑(elsOf (fld x0 4)).length:Int)==2)))) g) (Qf (.val (.d (.bool false))) g)) (Br (intOf (fld x0 0)==5) (EvF TT 82 [.str (strOf (fld x0 1))] g (KQ Qf λv g'=>∃b,v=.d (.bool b)∧Br b (Qf (.val (.d (.bool ((↑(elsOf (fld x0 4)).length:Int)==2)))) g') (Qf (.val (.d (.bool false))) g'))) (Br (intOf (fld x0 0)==6) (EvF TT 82 [.str (strOf (fld x0 1))] g (KQ Qf λv g'=>∃b,v=.d (.bool b)∧Br b (EvF TT 82 [.str (strOf (fld x0 2))] g' (KQ Qf λv g'=>∃b,v=.d (.bool b)∧Br b (Qf (.val (.d (.bool ((↑(elsOf (fld x0 4)).length:Int)==2)))) g') (Qf (.val (.d (.bool false))) g'))) (Qf (.val (.d (.bool false))) g'))) (Br (intOf (fld x0 0)==7) (Br (strOf (fld x0 1)==[]) (Br (decide (0<(↑(elsOf (fld x0 5)).length:Int))) (Qf (.val (.d (.bool ((↑(elsOf (fld x0 4)).length:Int)==IntKind.i64.wrap ((↑(elsOf (fld x0 5)).length:Int)+1))))) g) (Qf (.val (.d (.bool false))) g)) (Qf (.val (.d (.bool false))) g)) (Br (intOf (fld x0 0)==8) (EvF TT 84 [.str (strOf (fld x0 1))] g (KQ Qf λv g'=>∃b,v=.d (.bool b)∧Qf (.val (.d (.bool b))) g')) (Br (intOf (fld x0 0)==9) (EvF TT 197 [.str (strOf (fld x0 1))] g (KQ Qf λv g'=>∃n,v=.d (.int .i64 n)∧Br (decide (0<n)) (Qf (.val (.d (.bool ((↑(elsOf (fld x0 4)).length:Int)==2)))) g') (Qf (.val (.d (.bool false))) g'))) (Br (intOf (fld x0 0)==10) (Br (strOf (fld x0 1)==[]) (Qf (.val (.d (.bool ((↑(elsOf (fld x0 4)).length:Int)==1)))) g) (Qf (.val (.d (.bool false))) g)) (Qf (.val (.d (.bool false))) g))))))))))))
    (Br (intOf (fld x0 0)==1) (EvF TT 82 [.str (strOf (fld x0 1))] g (KQ Qf λv g'=>∃b,v=.d (.bool b)∧Br b (Qf (.val (.d (.bool ((↑(elsOf (fld x0 4)).length:Int)==0)))) g') (Qf (.val (.d (.bool false))) g'))) (Br (intOf (fld x0 0)==2) (Br (strOf (fld x0 1)==[]) (EvF TT 196 [.int .i64 (intOf (fld x0 3))] g (KQ Qf λv g'=>∃b,v=.d (.bool b)∧Br b (Qf (.val (.d (.bool ((↑(elsOf (fld x0 4)).length:Int)==0)))) g') (Qf (.val (.d (.bool false))) g'))) (Qf (.val (.d (.bool false))) g)) (Br (intOf (fld x0 0)==3) (EvF TT 82 [.str (strOf (fld x0 1))] g (KQ Qf λv g'=>∃b,v=.d (.bool b)∧Br b (Qf (.val (.d (.bool ((↑(elsOf (fld x0 4)).length:Int)==1)))) g') (Qf (.val (.d (.bool false))) g'))) (Br (intOf (fld x0 0)==4) (Br (strOf (fld x0 1)==[]) (Qf (.val (.d (.bool ((↑(elsOf (fld x0 4)).length:Int)==2)))) g) (Qf (.val (.d (.bool false))) g)) (Br (intOf (fld x0 0)==5) (EvF TT 82 [.str (strOf (fld x0 1))] g (KQ Qf λv g'=>∃b,v=.d (.bool b)∧Br b (Qf (.val (.d (.bool ((↑(elsOf (fld x0 4)).length:Int)==2)))) g') (Qf (.val (.d (.bool false))) g'))) (Br (intOf (fld x0 0)==6) (EvF TT 82 [.str (strOf (fld x0 1))] g (KQ Qf λv g'=>∃b,v=.d (.bool b)∧Br b (EvF TT 82 [.str (strOf (fld x0 2))] g' (KQ Qf λv g'=>∃b,v=.d (.bool b)∧Br b (Qf (.val (.d (.bool ((↑(elsOf (fld x0 4)).length:Int)==2)))) g') (Qf (.val (.d (.bool false))) g'))) (Qf (.val (.d (.bool false))) g'))) (Br (intOf (fld x0 0)==7) (Br (strOf (fld x0 1)==[]) (Br (decide (0<(↑(elsOf (fld x0 5)).length:Int))) (Qf (.val (.d (.bool ((↑(elsOf (fld x0 4)).length:Int)==IntKind.i64.wrap ((↑(elsOf (fld x0 5)).length:Int)+1))))) g) (Qf (.val (.d (.bool false))) g)) (Qf (.val (.d (.bool false))) g)) (Br (intOf (fld x0 0)==8) (EvF TT 84 [.str (strOf (fld x0 1))] g (KQ Qf λv g'=>∃b,v=.d (.bool b)∧Qf (.val (.d (.bool b))) g')) (Br (intOf (fld x0 0)==9) (EvF TT 197 [.str (strOf (fld x0 1))] g (KQ Qf λv g'=>∃n,v=.d (.int .i64 n)∧Br (decide (0<n)) (Qf (.val (.d (.bool ((↑(elsOf (fld x0 4)).length:Int)==2)))) g') (Qf (.val (.d (.bool false))) g'))) (Br (intOf (fld x0 0)==10) (Br (strOf (fld x0 1)==[]) (Qf (.val (.d (.bool ((↑(elsOf (fld x0 4)).length:Int)==1)))) g) (Qf (.val (.d (.bool false))) g)) (Qf (.val (.d (.bool false))) g)))))))))))))
  (Br (intOf (fld x0 0)!=7) (Br (decide (0<(↑(elsOf (fld x0 5)).length:Int))) (Qf (.val (.d (.bool false))) g) (Br (intOf (fld x0 0)==1) (EvF TT 82 [.str (strOf (fld x0 1))] g (KQ Qf λv g'=>∃b,v=.d (.bool b)∧Br b (Qf (.val (.d (.bool ((↑(elsOf (fld x0 4)).length:Int)==0)))) g') (Qf (.val (.d (.bool false))) g'))) (Br (intOf (fld x0 0)==2) (Br (strOf (fld x0 1)==[]) (EvF TT 196 [.int .i64 (intOf (fld x0 3))] g (KQ Qf λv g'=>∃b,v=.d (.bool b)∧Br b (Qf (.val (.d (.bool ((↑(elsOf (fld x0 4)).length:Int)==0)))) g') (Qf (.val (.d (.bool false))) g'))) (Qf (.val (.d (.bool false))) g)) (Br (intOf (fld x0 0)==3) (EvF TT 82 [.str (strOf (fld x0 1))] g (KQ Qf λv g'=>∃b,v=.d (.bool b)∧Br b (Qf (.val (.d (.bool ((↑(elsOf (fld x0 4)).length:Int)==1)))) g') (Qf (.val (.d (.bool false))) g'))) (Br (intOf (fld x0 0)==4) (Br (strOf (fld x0 1)==[]) (Qf (.val (.d (.bool ((↑(elsOf (fld x0 4)).length:Int)==2)))) g) (Qf (.val (.d (.bool false))) g)) (Br (intOf (fld x0 0)==5) (EvF TT 82 [.str (strOf (fld x0 1))] g (KQ Qf λv g'=>∃b,v=.d (.bool b)∧Br b (Qf (.val (.d (.bool ((↑(elsOf (fld x0 4)).length:Int)==2)))) g') (Qf (.val (.d (.bool false))) g'))) (Br (intOf (fld x0 0)==6) (EvF TT 82 [.str (strOf (fld x0 1))] g (KQ Qf λv g'=>∃b,v=.d (.bool b)∧Br b (EvF TT 82 [.str (strOf (fld x0 2))] g' (KQ Qf λv g'=>∃b,v=.d (.bool b)∧Br b (Qf (.val (.d (.bool ((↑(elsOf (fld x0 4)).length:Int)==2)))) g') (Qf (.val (.d (.bool false))) g'))) (Qf (.val (.d (.bool false))) g'))) (Br (intOf (fld x0 0)==7) (Br (strOf (fld x0 1)==[]) (Br (decide (0<(↑(elsOf (fld x0 5)).length:Int))) (Qf (.val (.d (.bool ((↑(elsOf (fld x0 4)).length:Int)==IntKind.i64.wrap ((↑(elsOf (fld x0 5)).length:Int)+1))))) g) (Qf (.val (.d (.bool false))) g)) (Qf (.val (.d (.bool false))) g)) (Br (intOf (fld x0 0)==8) (EvF TT 84 [.str (strOf (fld x0 1))] g (KQ Qf λv g'=>∃b,v=.d (.bool b)∧Qf (.val (.d (.bool b))) g')) (Br (intOf (fld x0 0)==9) (EvF TT 197 [.str (strOf (fld x0 1))] g (KQ Qf λv g'=>∃n,v=.d (.int .i64 n)∧Br (decide (0<n)) (Qf (.val (.d (.bool ((↑(elsOf (fld x0 4)).length:Int)==2)))) g') (Qf (.val (.d (.bool false))) g'))) (Br (intOf (fld x0 0)==10) (Br (strOf (fld x0 1)==[]) (Qf (.val (.d (.bool ((↑(elsOf (fld x0 4)).length:Int)==1)))) g) (Qf (.val (.d (.bool false))) g)) (Qf (.val (.d (.bool false))) g))))))))))))
   (Br (intOf (fld x0 0)==1) (EvF TT 82 [.str (strOf (fld x0 1))] g (KQ Qf λv g'=>∃b,v=.d (.bool b)∧Br b (Qf (.val (.d (.bool ((↑(elsOf (fld x0 4)).length:Int)==0)))) g') (Qf (.val (.d (.bool false))) g'))) (Br (intOf (fld x0 0)==2) (Br (strOf (fld x0 1)==[]) (EvF TT 196 [.int .i64 (intOf (fld x0 3))] g (KQ Qf λv g'=>∃b,v=.d (.bool b)∧Br b (Qf (.val (.d (.bool ((↑(elsOf (fld x0 4)).length:Int)==0)))) g') (Qf (.val (.d (.bool false))) g'))) (Qf (.val (.d (.bool false))) g)) (Br (intOf (fld x0 0)==3) (EvF TT 82 [.str (strOf (fld x0 1))] g (KQ Qf λv g'=>∃b,v=.d (.bool b)∧Br b (Qf (.val (.d (.bool ((↑(elsOf (fld x0 4)).length:Int)==1)))) g') (Qf (.val (.d (.bool false))) g'))) (Br (intOf (fld x0 0)==4) (Br (strOf (fld x0 1)==[]) (Qf (.val (.d (.bool ((↑(elsOf (fld x0 4)).length:Int)==2)))) g) (Qf (.val (.d (.bool false))) g)) (Br (intOf (fld x0 0)==5) (EvF TT 82 [.str (strOf (fld x0 1))] g (KQ Qf λv g'=>∃b,v=.d (.bool b)∧Br b (Qf (.val (.d (.bool ((↑(elsOf (fld x0 4)).length:Int)==2)))) g') (Qf (.val (.d (.bool false))) g'))) (Br (intOf (fld x0 0)==6) (EvF TT 82 [.str (strOf (fld x0 1))] g (KQ Qf λv g'=>∃b,v=.d (.bool b)∧Br b (EvF TT 82 [.str (strOf (fld x0 2))] g' (KQ Qf λv g'=>∃b,v=.d (.bool b)∧Br b (Qf (.val (.d (.bool ((↑(elsOf (fld x0 4)).length:Int)==2)))) g') (Qf (.val (.d (.bool false))) g'))) (Qf (.val (.d (.bool false))) g'))) (Br (intOf (fld x0 0)==7) (Br (strOf (fld x0 1)==[]) (Br (decide (0<(↑(elsOf (fld x0 5)).length:Int))) (Qf (.val (.d (.bool ((↑(elsOf (fld x0 4)).length:Int)==IntKind.i64.wrap ((↑(elsOf (fld x0 5)).length:Int)+1))))) g) (Qf (.val (.d (.bool false))) g)) (Qf (.val (.d (.bool false))) g)) (Br (intOf (fld x0 0)==8) (EvF TT 84 [.str (strOf (fld x0 1))] g (KQ Qf λv g'=>∃b,v=.d (.bool b)∧Qf (.val (.d (.bool b))) g')) (Br (intOf (fld x0 0)==9) (EvF TT 197 [.str (strOf (fld x0 1))] g (KQ Qf λv g'=>∃n,v=.d (.int .i64 n)∧Br (decide (0<n)) (Qf (.val (.d (.bool ((↑(elsOf (fld x0 4)).length:Int)==2)))) g') (Qf (.val (.d (.bool false))) g'))) (Br (intOf (fld x0 0)==10) (Br (strOf (fld x0 1)==[]) (Qf (.val (.d (.bool ((↑(elsOf (fld x0 4)).length:Int)==1)))) g) (Qf (.val (.d (.bool false))) g)) (Qf (.val (.d (.bool false))) g)))))))))))))):
  EvF TT 142 [x0] g Qf:=
 sx_fun (rk:=rk) (fn:=Tryz.f142) (loops:=lo142) (joins:=[]) (n:=100000) (args:=[(26,x0)]) rfl rfl rfl rfl ⟨h0,trivial⟩ (by kernel_rfl) h
def L86_17(n1:Int)(n6:Int)(y2:Dat)(g:Glob)(Qf:OGP):Prop:=CutP TT Tryz.f86 [1,1,1,1,1,1,0,1,0] Qf (mkC TT 86 Tryz.f86 2 [(1,.v 3 (.int .i64 n1)),(2,.loc 2 0 0),(6,.v 3 (.int .i64 n6))] [(2,.whole 61 y2)] g)
def lo86:List CutI:=[⟨17,[(1,.keep),(2,.keep),(6,.keep)],[(2,.whole 61)]⟩]
theorem w86{x0:Dat}{n1:Int}{g:Glob}{Qf:OGP}(h0:HasTy TT 61 x0)
 (h:Br (decide (n1<1)) (Qf (.val (.d (.int .i64 (-1)))) g) (Br (intOf (fld x0 2)!=0) (Qf (.val (.d (.int .i64 (-1)))) g) (Br (intOf (fld x0 0)==1) (Br (strOf (fld x0 1)==[]) (Br (!(↑(elsOf (fld x0 3)).length:Int)==0) (Qf (.val (.d (.int .i64 (-1)))) g) (L86_17 (IntKind.i64.wrap (n1-1)) 0 x0 g Qf)) (Qf (.val (.d (.int .i64 (-1)))) g)) (Br (intOf (fld x0 0)==2) (EvF TT 83 [.str (strOf (fld x0 1)),.bool true] g (KQ Qf λv g'=>∃b,v=.d (.bool b)∧Br b (Br (!(↑(elsOf (fld x0 3)).length:Int)==0) (Qf (.val (.d (.int .i64 (-1)))) g') (L86_17 (IntKind.i64.wrap (n1-1)) 0 x0 g' Qf)) (Qf (.val (.d (.int .i64 (-1)))) g'))) (Br (intOf (fld x0 0)==3) (Br (strOf (fld x0 1)==[]) (Br (!(↑(elsOf (fld x0 3)).length:Int)==2) (Qf (.val (.d (.int .i64 (-1)))) g) (L86_17 (IntKind.i64.wrap (n1-1)) 0 x0 g Qf)) (Qf (.val (.d (.int .i64 (-1)))) g)) (Br (intOf (fld x0 0)==4) (EvF TT 82 [.str (strOf (fld x0 1))] g (KQ Qf λv g'=>∃b,v=.d (.bool b)∧Br b (Br (!!strOf (fld x0 1)==[105,110,116]) (Qf (.val (.d (.int .i64 (-1)))) g') (L86_17 (IntKind.i64.wrap (n1-1)) 0 x0 g' Qf)) (Qf (.val (.d (.int .i64 (-1)))) g'))) (Qf (.val (.d (.int .i64 (-1)))) g))))))):
 EvF TT 86 [x0,.int .i64 n1] g Qf:=
 sx_fun (rk:=rk) (fn:=Tryz.f86) (loops:=lo86) (joins:=[]) (n:=100000) (args:=[(61,x0),(3,.int .i64 n1)]) rfl rfl rfl rfl ⟨h0,tyInt rfl,trivial⟩ (by kernel_rfl) h
theorem w86_17{n1:Int}{n6:Int}{y2:Dat}{g:Glob}{Qf:OGP}
 (h:Br (decide (n6<(↑(elsOf (fld y2 3)).length:Int))) (Br (decide (0≤n1)) (InB n6 (elsOf (fld y2 3)).length∧EvF TT 86 [getE (elsOf (fld y2 3)) n6,.int .i64 n1] g (KQ Qf λv g'=>∃n,v=.d (.int .i64 n)∧L86_17 n (IntKind.i64.wrap (n6+1)) y2 g' Qf)) (Qf (.val (.d (.int .i64 n1))) g)) (Qf (.val (.d (.int .i64 n1))) g)):
 L86_17 n1 n6 y2 g Qf:=sx_cut (rk:=rk) (loops:=lo86) (joins:=[]) (n:=100000) (by kernel_rfl) h
def L88_4(n3:Int)(y1:Dat)(g:Glob)(Qf:OGP):Prop:=CutP TT Tryz.f88 [1,1,0,1,0] Qf (mkC TT 88 Tryz.f88 1 [(1,.loc 1 0 0),(3,.v 3 (.int .i64 n3))] [(1,.whole 26 y1)] g)
def L88_9(n4:Int)(y1:Dat)(g:Glob)(Qf:OGP):Prop:=CutP TT Tryz.f88 [1,1,1,0,1,0] Qf (mkC TT 88 Tryz.f88 1 [(1,.loc 1 0 0),(4,.v 3 (.int .i64 n4))] [(1,.whole 26 y1)] g)
def lo88:List CutI:=[⟨4,[(1,.keep),(3,.keep)],[(1,.whole 26)]⟩,⟨9,[(1,.keep),(4,.keep)],[(1,.whole 26)]⟩]
theorem w88{x0:Dat}{g:Glob}{Qf:OGP}(h0:HasTy TT 26 x0)
 (h:EvF TT 142 [x0] g (KQ Qf λv g'=>∃b,v=.d (.bool b)∧Br (!b) (Qf (.val (.d (.bool false))) g') (L88_4 0 x0 g' Qf))):
 EvF TT 88 [x0] g Qf:=
 sx_fun (rk:=rk) (fn:=Tryz.f88) (loops:=lo88) (joins:=[]) (n:=100000) (args:=[(26,x0)]) rfl rfl rfl rfl ⟨h0,trivial⟩ (by kernel_rfl) h
theorem w88_4{n3:Int}{y1:Dat}{g:Glob}{Qf:OGP}
 (h:Br (decide (n3<(↑(elsOf (fld y1 5)).length:Int))) (InB n3 (elsOf (fld y1 5)).length∧EvF TT 143 [getE (elsOf (fld y1 5)) n3] g (KQ Qf λv g'=>∃b,v=.d (.bool b)∧Br (!b) (Qf (.val (.d (.bool false))) g') (L88_4 (IntKind.i64.wrap (n3+1)) y1 g' Qf))) (L88_9 0 y1 g Qf)):
 L88_4 n3 y1 g Qf:=sx_cut (rk:=rk) (loops:=lo88) (joins:=[]) (n:=100000) (by kernel_rfl) h
theorem w88_9{n4:Int}{y1:Dat}{g:Glob}{Qf:OGP}
 (h:Br (decide (n4<(↑(elsOf (fld y1 4)).length:Int))) (InB n4 (elsOf (fld y1 4)).length∧EvF TT 88 [getE (elsOf (fld y1 4)) n4] g (KQ Qf λv g'=>∃b,v=.d (.bool b)∧Br (!b) (Qf (.val (.d (.bool false))) g') (L88_9 (IntKind.i64.wrap (n4+1)) y1 g' Qf))) (Qf (.val (.d (.bool true))) g)):
 L88_9 n4 y1 g Qf:=sx_cut (rk:=rk) (loops:=lo88) (joins:=[]) (n:=100000) (by kernel_rfl) h
def L52_4(n3:Int)(y1:Dat)(g:Glob)(Qf:OGP):Prop:=CutP TT Tryz.f52 [1,1,0,1,0] Qf (mkC TT 52 Tryz.f52 1 [(1,.loc 1 0 0),(3,.v 3 (.int .i64 n3))] [(1,.whole 28 y1)] g)
def L52_10(n3:Int)(n5:Int)(y4:Dat)(y1:Dat)(g:Glob)(Qf:OGP):Prop:=CutP TT Tryz.f52 [1,1,0,1,0,0,1,0,0,1,1,0,1,0] Qf (mkC TT 52 Tryz.f52 1 [(1,.loc 1 0 0),(3,.v 3 (.int .i64 n3)),(4,.loc 4 0 0),(5,.v 3 (.int .i64 n5))] [(4,.whole 84 y4),(1,.whole 28 y1)] g)
def L52_15(n3:Int)(n6:Int)(y4:Dat)(y1:Dat)(g:Glob)(Qf:OGP):Prop:=CutP TT Tryz.f52 [1,1,0,1,0,0,1,0,0,1,1,1,1,0] Qf (mkC TT 52 Tryz.f52 1 [(1,.loc 1 0 0),(3,.v 3 (.int .i64 n3)),(4,.loc 4 0 0),(6,.v 3 (.int .i64 n6))] [(4,.whole 84 y4),(1,.whole 28 y1)] g)
def L52_20(n3:Int)(n6:Int)(n7:Int)(y4:Dat)(y1:Dat)(g:Glob)(Qf:OGP):Prop:=CutP TT Tryz.f52 [1,1,0,1,0,0,1,0,0,1,1,1,1,0,0,1,0,0,1,1,0] Qf (mkC TT 52 Tryz.f52 1 [(1,.loc 1 0 0),(3,.v 3 (.int .i64 n3)),(4,.loc 4 0 0),(6,.v 3 (.int .i64 n6)),(7,.v 3 (.int .i64 n7))] [(4,.whole 84 y4),(1,.whole 28 y1)] g)
def lo52:List CutI:=[⟨4,[(1,.keep),(3,.keep)],[(1,.whole 28)]⟩,⟨10,[(1,.keep),(3,.keep),(4,.keep),(5,.keep)],[(4,.whole 84),(1,.whole 28)]⟩,⟨15,[(1,.keep),(3,.keep),(4,.keep),(6,.keep)],[(4,.whole 84),(1,.whole 28)]⟩,⟨20,[(1,.keep),(3,.keep),(4,.keep),(6,.keep),(7,.keep)],[(4,.whole 84),(1,.whole 28)]⟩]
theorem w52{x0:Dat}{g:Glob}{Qf:OGP}(h0:HasTy TT 28 x0)
 (h:Br (decide (32<(↑(elsOf (fld x0 0)).length:Int))) (Qf (.val (.d (.bool false))) g) (EvF TT 8 [x0] g (KQ Qf λv g'=>∃n,v=.d (.int .i64 n)∧Br (decide (2048<n)) (Qf (.val (.d (.bool false))) g') (L52_4 0 x0 g' Qf)))):
 EvF TT 52 [x0] g Qf:=
 sx_fun (rk:=rk) (fn:=Tryz.f52) (loops:=lo52) (joins:=[]) (n:=100000) (args:=[(28,x0)]) rfl rfl rfl rfl ⟨h0,trivial⟩ (by kernel_rfl) h
theorem w52_4{n3:Int}{y1:Dat}{g:Glob}{Qf:OGP}
 (h:Br (decide (n3<(↑(elsOf (fld y1 0)).length:Int))) (InB n3 (elsOf (fld y1 0)).length∧EvF TT 82 [.str (strOf (fld (getE (elsOf (fld y1 0)) n3) 0))] g (KQ Qf λv g'=>∃b,v=.d (.bool b)∧Br (!b) (Qf (.val (.d (.bool false))) g') (Br ((↑(elsOf (fld (getE (elsOf (fld y1 0)) n3) 2)).length:Int)==0) (Qf (.val (.d (.bool false))) g') (Br (decide (32<(↑(elsOf (fld (getE (elsOf (fld y1 0)) n3) 2)).length:Int))) (Qf (.val (.d (.bool false))) g') (Br (decide (4<(↑(elsOf (fld (getE (elsOf (fld y1 0)) n3) 1)).length:Int))) (Qf (.val (.d (.bool false))) g') (L52_10 n3 0 (getE (elsOf (fld y1 0)) n3) y1 g' Qf)))))) (EvF TT 87 [y1] g (KQ Qf λv g'=>∃n,v=.d (.int .i64 n)∧Br (n==0) (EvF TT 88 [sub y1 1 7] g' (KQ Qf λv g'=>∃b,v=.d (.bool b)∧Qf (.val (.d (.bool b))) g')) (Qf (.val (.d (.bool false))) g')))):
 L52_4 n3 y1 g Qf:=sx_cut (rk:=rk) (loops:=lo52) (joins:=[]) (n:=100000) (by kernel_rfl) h
theorem w52_10{n3:Int}{n5:Int}{y4:Dat}{y1:Dat}{g:Glob}{Qf:OGP}
 (h:Br (decide (n5<(↑(elsOf (fld y4 1)).length:Int))) (InB n5 (elsOf (fld y4 1)).length∧EvF TT 83 [.str (strOf (fld (getE (elsOf (fld y4 1)) n5) 0)),.bool true] g (KQ Qf λv g'=>∃b,v=.d (.bool b)∧Br (!b) (Qf (.val (.d (.bool false))) g') (L52_10 n3 (IntKind.i64.wrap (n5+1)) y4 y1 g' Qf))) (L52_15 n3 0 y4 y1 g Qf)):
 L52_10 n3 n5 y4 y1 g Qf:=sx_cut (rk:=rk) (loops:=lo52) (joins:=[]) (n:=100000) (by kernel_rfl) h
theorem w52_15{n3:Int}{n6:Int}{y4:Dat}{y1:Dat}{g:Glob}{Qf:OGP}
 (h:Br (decide (n6<(↑(elsOf (fld y4 2)).length:Int))) (InB n6 (elsOf (fld y4 2)).length∧EvF TT 84 [.str (strOf (fld (getE (elsOf (fld y4 2)) n6) 0))] g (KQ Qf λv g'=>∃b,v=.d (.bool b)∧Br (!b) (Qf (.val (.d (.bool false))) g') (InB n6 (elsOf (fld y4 2)).length∧Br (decide (8<(↑(elsOf (fld (getE (elsOf (fld y4 2)) n6) 1)).length:Int))) (Qf (.val (.d (.bool false))) g') (L52_20 n3 n6 0 y4 y1 g' Qf)))) (L52_4 (IntKind.i64.wrap (n3+1)) y1 g Qf)):
 L52_15 n3 n6 y4 y1 g Qf:=sx_cut (rk:=rk) (loops:=lo52) (joins:=[]) (n:=100000) (by kernel_rfl) h
theorem w52_20{n3:Int}{n6:Int}{n7:Int}{y4:Dat}{y1:Dat}{g:Glob}{Qf:OGP}
 (h:InB n6 (elsOf (fld y4 2)).length∧Br (decide (n7<(↑(elsOf (fld (getE (elsOf (fld y4 2)) n6) 1)).length:Int))) (InB n6 (elsOf (fld y4 2)).length∧InB n7 (elsOf (fld (getE (elsOf (fld y4 2)) n6) 1)).length∧EvF TT 85 [getE (elsOf (fld (getE (elsOf (fld y4 2)) n6) 1)) n7,.int .i64 256] g (KQ Qf λv g'=>∃b,v=.d (.bool b)∧Br b (Qf (.val (.d (.bool false))) g') (InB n6 (elsOf (fld y4 2)).length∧InB n7 (elsOf (fld (getE (elsOf (fld y4 2)) n6) 1)).length∧EvF TT 86 [getE (elsOf (fld (getE (elsOf (fld y4 2)) n6) 1)) n7,.int .i64 1048576] g' (KQ Qf λv g'=>∃n,v=.d (.int .i64 n)∧Br (decide (n<0)) (Qf (.val (.d (.bool false))) g') (L52_20 n3 n6 (IntKind.i64.wrap (n7+1)) y4 y1 g' Qf))))) (L52_15 n3 (IntKind.i64.wrap (n6+1)) y4 y1 g Qf)):
 L52_20 n3 n6 n7 y4 y1 g Qf:=sx_cut (rk:=rk) (loops:=lo52) (joins:=[]) (n:=100000) (by kernel_rfl) h
end Go.Proofs.YtiheejdkkjfenaaGreatDoor.Pa
namespace Go.Proofs.YtiheejdkkjfenaaGreatDoor.Pa
open Go Go.Proofs.YtiheejdkkjfenaaGreatDoor.Am
def opL:List Str:=[[43],[45],[42],[47],[37],[60],[61,61]]
def ixF(s:Str):List Str→Int→Int
 |[],_=>0
 |x::l,i=>bif x==s then i else ixF s l (i+1)
def opN(s:Str):Int:=ixF s opL 1
section
variable{s:Str}{g:Glob}{Qf:OGP}
theorem qint{a b:Int}(h:Qf (.val (.d (.int .i64 a))) g)(e:a=b):Qf (.val (.d (.int .i64 b))) g:=e▸h
theorem r10Op_ok(hs:s.length≤2^40)(hQ:Qf (.val (.d (.int .i64 (opN s)))) g):EvF TT 197 [.str s] g Qf:=by
 refine w197 hs ?_
 have hty:HasTy TT 82 (.sl 1 (([]::opL).map .str)):=ty_strs (l:=[]::opL) (by decide) (by decide) (by decide)
 have go:∀(l pre:List Str),[]::opL=pre++l→1≤pre.length→Qf (.val (.d (.int .i64 (ixF s l (pre.length:Int))))) g→L197_2 s (pre.length:Int) g Qf:=by
  intro l
  induction l with
  |nil=>
   intro pre hl h1 hQ
   refine w197_2 (w220 ⟨_,hty,rfl,?_⟩)
   have:pre.length=8:=by rw[List.append_nil] at hl;rw[←hl];rfl
   rw[this]
   exact hQ
  |cons x l ih=>
   intro pre hl h1 hQ
   have hlen:pre.length+(l.length+1)=8:=by
    have:=congrArg List.length hl
    rw[List.length_append,List.length_cons] at this
    exact this.symm
   refine w197_2 (w220 ⟨_,hty,rfl,?_⟩)
   have hg:getE (elsOf (.sl 1 (([]::opL).map .str))) (pre.length:Int)=.str x:=by
    simp only[elsOf,getE,Int.toNat_natCast,hl,List.map_append,List.map_cons]
    have:=nth_app (pre:=pre.map Dat.str) (x:=.str x) (l:=l.map .str)
    rw[List.length_map] at this
    exact this
   rw[show(elsOf (.sl 1 (([]::opL).map .str))).length=8 from rfl,Br_lt (show pre.length<8 by omega)]
   refine w220 ⟨_,hty,rfl,inB (show pre.length<8 by omega),?_⟩
   rw[hg]
   simp only[ixF] at hQ
   show Br (x==s) _ _
   cases hq:(x==s) with
   |true=>rw[hq] at hQ;exact hQ
   |false=>
    rw[hq,cond_false] at hQ
    rw[Br_false,wrap_nat (by omega)]
    have:=ih (pre++[x]) (by rw[hl,List.append_assoc];rfl) (by rw[List.length_append];omega)
    rw[List.length_append] at this
    exact this hQ
 exact go opL [[]] rfl (by simp) hQ
end
end Go.Proofs.YtiheejdkkjfenaaGreatDoor.Pa
namespace Go.Proofs.YtiheejdkkjfenaaGreatDoor.Pa
open Go Go.Proofs.YtiheejdkkjfenaaGreatDoor.Am
def okTy1(k:Int)(s:Str)(n:Int)(l:Int):Bool:=
 (bif k==1 then(s==[])&&(l==0) else bif k==2 then wVar s&&(l==0) else bif k==3 then(s==[])&&(l==2) else bif k==4 then wLow s&&!(s==[105,110,116]) else false)&&(n==0)
mutual
def okTy:Ty→Bool
 |.mk k s n a=>okTy1 k s n a.length&&okTys a
def okTys:List Ty→Bool
 |[]=>true
 |x::l=>okTy x&&okTys l
end
mutual
def vrTy:Ty→Bool
 |.mk _ s _ a=>decide (s.length<2^40)&&vrTys a
def vrTys:List Ty→Bool
 |[]=>true
 |x::l=>vrTy x&&vrTys l
end
def okPt1(k:Int)(s:Str)(n:Int)(l:Int):Bool:=
 bif k==1 then(s==[])&&((n==0)&&(l==0)) else bif k==2 then wLow s&&((n==0)&&(l==0)) else bif k==3 then(s==[])&&(inI n&&(l==0)) else bif k==4 then wUp s&&(n==0) else false
mutual
def okPt:Pt→Bool
 |.mk k s n a _=>okPt1 k s n a.length&&okPts a
def okPts:List Pt→Bool
 |[]=>true
 |x::l=>okPt x&&okPts l
end
def gt8(n:Int):Bool:=decide (8<n)
mutual
def flPt:Pt→Bool
 |.mk k _ _ a _=>((k==4)&&gt8 a.length)||flPts a
def flPts:List Pt→Bool
 |[]=>false
 |x::l=>flPt x||flPts l
end
theorem absTyA_len(x:Dat):(absTyA x).length=(elsOf x).length:=by rw[absTyA_map,List.length_map]
theorem absPtA_len(x:Dat):(absPtA x).length=(elsOf x).length:=by rw[absPtA_map,List.length_map]
theorem absExA_len(x:Dat):(absExA x).length=(elsOf x).length:=by rw[absExA_map,List.length_map]
theorem rType_ok:∀(k:Nat) (x:Dat) (g:Glob) (l:Nat),SizeOf.sizeOf x<k→HasTy TT 61 x→ndTy (absTy x)≤l→l≤2^30→∀(Qf:OGP),Qf (.val (.d (.int .i64 (bif okTy (absTy x) then((l-ndTy (absTy x):Nat):Int) else -1)))) g→EvF TT 86 [x,.int .i64 (l:Int)] g Qf
 |0,x,g,l,hk,_,_,_=>by omega
 |k+1,x,g,l,hk,hx,hn,hl=>by
  intro Qf hQ
  refine w86 hx ?_
  obtain⟨k1,s1,v1,a1,rfl,hs1,t1⟩:=type_ty hx
  have ex:=t1.els undTypes
  have exl:=ex.1.1
  have hc:=sizeOf_cell (cs:=[.int .i64 k1,.str s1,.int .i64 v1,a1]) (c:=a1) (by simp)
  simp only[absTy,okTy,absTyA_len,ndTy] at hQ hn
  obtain⟨l,rfl⟩:∃m,l=m+1:=⟨l-1,by omega⟩
  have hw:IntKind.i64.wrap (((l+1:Nat):Int)-1)=(l:Int):=by rw[wrap_id (by omega) (by omega)];omega
  rw[hw]
  have rest:okTy1 k1 s1 v1 ((elsOf a1).length:Int)=true→L86_17 (l:Int) 0 (.agg [.int .i64 k1,.str s1,.int .i64 v1,a1]) g Qf:=by
   intro h1
   rw[h1,Bool.true_and] at hQ
   have hQ:Qf (.val (.d (.int .i64 (bif okTys (((elsOf a1).drop 0).map absTy) then((l-ndTys (((elsOf a1).drop 0).map absTy):Nat):Int) else -1)))) g:=by
    rw[List.drop_zero,←absTyA_map]
    refine qint hQ ?_
    cases okTys (absTyA a1)
    ·rfl
    ·simp only[cond_true];omega
   refine loopUp (len:=(elsOf a1).length) (λi=>∀m:Nat,m≤2^30→ndTys (((elsOf a1).drop i).map absTy)≤m→Qf (.val (.d (.int .i64 (bif okTys (((elsOf a1).drop i).map absTy) then((m-ndTys (((elsOf a1).drop i).map absTy):Nat):Int) else -1)))) g→L86_17 (m:Int) (i:Int) (.agg [.int .i64 k1,.str s1,.int .i64 v1,a1]) g Qf) ?_ ?_ 0 (Nat.zero_le _) l (by omega) (by rw[List.drop_zero,←absTyA_map];omega) hQ
   ·intro m _ _ hQ
    refine w86_17 ?_
    rw[show(fld (Dat.agg [.int .i64 k1,.str s1,.int .i64 v1,a1]) 3)=a1 from rfl,Br_ge]
    rw[List.drop_length] at hQ
    exact hQ
   ·intro i hi ih m hm hnm hQ
    refine w86_17 ?_
    rw[show(fld (Dat.agg [.int .i64 k1,.str s1,.int .i64 v1,a1]) 3)=a1 from rfl,Br_lt hi,getE_nat hi,show decide ((0:Int)≤(m:Int))=true from decide_eq_true (by omega),Br_true]
    have hsz:=sizeOf_el hi
    rw[ndTys_drop hi] at hnm hQ
    rw[List.drop_eq_getElem_cons hi,List.map_cons,okTys] at hQ
    refine⟨inB hi,rType_ok k _ g m (by omega) (ex.2 _ (List.getElem_mem hi)) (by omega) hm _ ⟨_,rfl,?_⟩⟩
    rw[wrap_nat (by omega)]
    cases ho:okTy (absTy (elsOf a1)[i]) with
    |true=>
     rw[ho] at hQ
     simp only[cond_true,Bool.true_and] at hQ⊢
     refine ih _ (by omega) (by omega) (qint hQ ?_)
     cases okTys (((elsOf a1).drop (i+1)).map absTy)
     ·rfl
     ·simp only[cond_true];omega
    |false=>
     rw[ho] at hQ
     simp only[cond_false,Bool.false_and] at hQ⊢
     refine w86_17 (Br_iff.2 ⟨λ_=>?_,λ_=>hQ⟩)
     exact hQ
  have bad:okTy1 k1 s1 v1 ((elsOf a1).length:Int)=false→Qf (.val (.d (.int .i64 (-1)))) g:=λh=>by
   rw[h] at hQ
   exact hQ
  simp only[fld,nth,intOf,strOf]
  refine Br_iff.2 ⟨λq=>absurd (of_decide_eq_true q) (by omega),λ_=>?_⟩
  repeat' (first
   |refine Br_iff.2 ⟨λq=>?_,λq=>?_⟩
   |refine r11Word_ok true hs1 ⟨_,rfl,?_⟩
   |refine r12lowWord_ok hs1 ⟨_,rfl,?_⟩)
  all_goals first
   |(refine rest ?_;simp_all[okTy1,wVar])
   |(refine bad ?_;simp_all[okTy1,wVar])
theorem rPat_ok:∀(k:Nat) (x:Dat) (g:Glob),SizeOf.sizeOf x<k→HasTy TT 52 x→∀(Qf:OGP),Qf (.val (.d (.bool (okPt (absPt x))))) g→EvF TT 143 [x] g Qf
 |0,x,g,hk,_=>by omega
 |k+1,x,g,hk,hx=>by
  intro Qf hQ
  refine w143 hx ?_
  obtain⟨k1,s1,v1,a1,p1,rfl,hs1,t1⟩:=pat_ty hx
  simp only[absPt,okPt,absPtA_len] at hQ
  have ex:=t1.els undPats
  have exl:=ex.1.1
  have hc:=sizeOf_cell (cs:=[.int .i64 k1,.str s1,.int .i64 v1,a1,.int .i64 p1]) (c:=a1) (by simp)
  simp only[fld,nth,intOf,strOf]
  have rest:∀b:Bool,b=okPt1 k1 s1 v1 ((elsOf a1).length:Int)→L143_12 b 0 (.agg [.int .i64 k1,.str s1,.int .i64 v1,a1,.int .i64 p1]) g Qf:=by
   intro b hb
   rw[←hb,absPtA_map] at hQ
   refine loopUp (len:=(elsOf a1).length) (λi=>∀b:Bool,Qf (.val (.d (.bool (b&&okPts (((elsOf a1).drop i).map absPt))))) g→L143_12 b (i:Int) (.agg [.int .i64 k1,.str s1,.int .i64 v1,a1,.int .i64 p1]) g Qf) ?_ ?_ 0 (Nat.zero_le _) b hQ
   ·intro b hQ
    refine w143_12 ?_
    rw[show(fld (Dat.agg [.int .i64 k1,.str s1,.int .i64 v1,a1,.int .i64 p1]) 3)=a1 from rfl,Br_ge]
    rw[List.drop_length] at hQ
    exact qcast hQ (by simp[okPts])
   ·intro i hi ih b hQ
    refine w143_12 ?_
    rw[show(fld (Dat.agg [.int .i64 k1,.str s1,.int .i64 v1,a1,.int .i64 p1]) 3)=a1 from rfl,Br_lt hi,getE_nat hi]
    have hsz:=sizeOf_el hi
    rw[List.drop_eq_getElem_cons hi,List.map_cons,okPts] at hQ
    cases b with
    |false=>exact hQ
    |true=>
     refine⟨inB hi,rPat_ok k _ g (by omega) (ex.2 _ (List.getElem_mem hi)) _ ⟨_,rfl,?_⟩⟩
     rw[wrap_nat (by omega)]
     exact ih _ hQ
  repeat' (first
   |refine Br_iff.2 ⟨λq=>?_,λq=>?_⟩
   |refine r12lowWord_ok hs1 ⟨_,rfl,?_⟩
   |refine r12upWord_ok hs1 ⟨_,rfl,?_⟩
   |refine r10In_ok ⟨_,rfl,?_⟩)
  all_goals (refine rest _ ?_;simp_all[okPt1])
theorem fullPat_ok:∀(k:Nat) (x:Dat) (g:Glob),SizeOf.sizeOf x<k→HasTy TT 52 x→∀(Qf:OGP),Qf (.val (.d (.bool (flPt (absPt x))))) g→EvF TT 194 [x] g Qf
 |0,x,g,hk,_=>by omega
 |k+1,x,g,hk,hx=>by
  intro Qf hQ
  refine w194 hx ?_
  obtain⟨k1,s1,v1,a1,p1,rfl,hs1,t1⟩:=pat_ty hx
  simp only[absPt,flPt,absPtA_len] at hQ
  have ex:=t1.els undPats
  have exl:=ex.1.1
  have hc:=sizeOf_cell (cs:=[.int .i64 k1,.str s1,.int .i64 v1,a1,.int .i64 p1]) (c:=a1) (by simp)
  simp only[fld,nth,intOf,strOf]
  have rest:((k1==4)&&gt8 ((elsOf a1).length:Int))=false→L194_4 0 (.agg [.int .i64 k1,.str s1,.int .i64 v1,a1,.int .i64 p1]) g Qf:=by
   intro hb
   rw[hb,Bool.false_or,absPtA_map] at hQ
   refine loopUp (len:=(elsOf a1).length) (λi=>Qf (.val (.d (.bool (flPts (((elsOf a1).drop i).map absPt))))) g→L194_4 (i:Int) (.agg [.int .i64 k1,.str s1,.int .i64 v1,a1,.int .i64 p1]) g Qf) ?_ ?_ 0 (Nat.zero_le _) hQ
   ·intro hQ
    refine w194_4 ?_
    rw[show(fld (Dat.agg [.int .i64 k1,.str s1,.int .i64 v1,a1,.int .i64 p1]) 3)=a1 from rfl,Br_ge]
    rw[List.drop_length] at hQ
    exact hQ
   ·intro i hi ih hQ
    refine w194_4 ?_
    rw[show(fld (Dat.agg [.int .i64 k1,.str s1,.int .i64 v1,a1,.int .i64 p1]) 3)=a1 from rfl,Br_lt hi,getE_nat hi]
    have hsz:=sizeOf_el hi
    rw[List.drop_eq_getElem_cons hi,List.map_cons,flPts] at hQ
    refine⟨inB hi,fullPat_ok k _ g (by omega) (ex.2 _ (List.getElem_mem hi)) _ ⟨_,rfl,Br_iff.2 ⟨λq=>?_,λq=>?_⟩⟩⟩
    ·rw[q] at hQ;exact hQ
    ·rw[q,Bool.false_or] at hQ
     rw[wrap_nat (by omega)]
     exact ih hQ
  refine Br_iff.2 ⟨λq=>Br_iff.2 ⟨λq'=>?_,λq'=>?_⟩,λq=>?_⟩
  ·rw[q,show gt8 _=true from q'] at hQ;exact hQ
  ·exact rest (by rw[q,show gt8 _=false from q'];rfl)
  ·exact rest (by rw[q];rfl)
end Go.Proofs.YtiheejdkkjfenaaGreatDoor.Pa
namespace Go.Proofs.YtiheejdkkjfenaaGreatDoor.Pa
open Go Go.Proofs.YtiheejdkkjfenaaGreatDoor.Am
def pos0(n:Int):Bool:=decide (0<n)
def okEx1(k:Int)(s r:Str)(n la lb:Int):Bool:=
 bif (!(k==6)&&!(r==[]))||((!(k==2)&&!(n==0))||(!(k==7)&&pos0 lb)) then false
 else bif k==1 then wLow s&&(la==0) else bif k==2 then(s==[])&&(inI n&&(la==0)) else bif k==3 then wLow s&&(la==1) else bif k==4 then(s==[])&&(la==2)
 else bif k==5 then wLow s&&(la==2) else bif k==6 then wLow s&&(wLow r&&(la==2)) else bif k==7 then(s==[])&&(pos0 lb&&(la==lb+1)) else bif k==8 then wUp s
 else bif k==9 then pos0 (opN s)&&(la==2) else bif k==10 then(s==[])&&(la==1) else false
mutual
def okEx:Ex'→Bool
 |.mk k s r n a b _=>okEx1 k s r n a.length b.length&&(okPts b&&okExs a)
def okExs:List Ex'→Bool
 |[]=>true
 |x::l=>okEx x&&okExs l
end
mutual
def flEx:Ex'→Bool
 |.mk k _ _ _ a b _=>((k==8)&&gt8 a.length)||(flPts b||flExs a)
def flExs:List Ex'→Bool
 |[]=>false
 |x::l=>flEx x||flExs l
end
theorem rNamed_ok(x:Dat)(g:Glob)(k1 v1 p1:Int)(s1 r1:Str)(a1 b1:Dat)(hx:x=.agg [.int .i64 k1,.str s1,.str r1,.int .i64 v1,a1,b1,.int .i64 p1])(ht:HasTy TT 26 x)(hs1:s1.length≤2^40)(hr1:r1.length≤2^40)(hl:(elsOf b1).length≤2^40)(Qf:OGP)(hQ:Qf (.val (.d (.bool (okEx1 k1 s1 r1 v1 ((elsOf a1).length:Int) ((elsOf b1).length:Int))))) g):EvF TT 142 [x] g Qf:=by
 refine w142 ht ?_
 subst hx
 have hw:IntKind.i64.wrap (((elsOf b1).length:Int)+1)=((elsOf b1).length:Int)+1:=wrap_id (by omega) (by omega)
 simp only[fld,nth,intOf,strOf,hw]
 clear hw hl ht
 repeat' (first
  |refine Br_iff.2 ⟨λq=>?_,λq=>?_⟩
  |refine r12lowWord_ok hs1 ⟨_,rfl,?_⟩
  |refine r12lowWord_ok hr1 ⟨_,rfl,?_⟩
  |refine r12upWord_ok hs1 ⟨_,rfl,?_⟩
  |refine r10In_ok ⟨_,rfl,?_⟩
  |refine r10Op_ok hs1 ⟨_,rfl,?_⟩)
 all_goals (clear hs1 hr1;refine qcast hQ ?_;clear hQ;simp_all[okEx1,pos0];try (intro h';omega))
theorem rExpr_ok:∀(k:Nat) (x:Dat) (g:Glob),SizeOf.sizeOf x<k→HasTy TT 26 x→∀(Qf:OGP),Qf (.val (.d (.bool (okEx (absEx x))))) g→EvF TT 88 [x] g Qf
 |0,x,g,hk,_=>by omega
 |k+1,x,g,hk,hx=>by
  intro Qf hQ
  refine w88 hx ?_
  obtain⟨k1,s1,r1,v1,a1,b1,p1,rfl,hs1,hr1,t1,u1⟩:=expr_ty hx
  simp only[absEx,okEx,absExA_len,absPtA_len] at hQ
  have ex:=t1.els undExprs
  have exl:=ex.1.1
  have eu:=u1.els undPats
  have eul:=eu.1.1
  have hc:=sizeOf_cell (cs:=[.int .i64 k1,.str s1,.str r1,.int .i64 v1,a1,b1,.int .i64 p1]) (c:=a1) (by simp)
  refine rNamed_ok _ g k1 v1 p1 s1 r1 a1 b1 rfl hx hs1 hr1 eul _ ⟨_,rfl,Br_iff.2 ⟨λq=>?_,λq=>?_⟩⟩
  ·rw[show okEx1 k1 s1 r1 v1 ((elsOf a1).length:Int) ((elsOf b1).length:Int)=false by simpa using q] at hQ
   exact hQ
  ·rw[show okEx1 k1 s1 r1 v1 ((elsOf a1).length:Int) ((elsOf b1).length:Int)=true by simpa using q,Bool.true_and,absPtA_map,absExA_map] at hQ
   have args:Qf (.val (.d (.bool (okExs ((elsOf a1).map absEx))))) g→L88_9 0 (.agg [.int .i64 k1,.str s1,.str r1,.int .i64 v1,a1,b1,.int .i64 p1]) g Qf:=by
    refine loopUp (len:=(elsOf a1).length) (λi=>Qf (.val (.d (.bool (okExs (((elsOf a1).drop i).map absEx))))) g→L88_9 (i:Int) (.agg [.int .i64 k1,.str s1,.str r1,.int .i64 v1,a1,b1,.int .i64 p1]) g Qf) ?_ ?_ 0 (Nat.zero_le _)
    ·intro hQ
     refine w88_9 ?_
     rw[show(fld (Dat.agg [.int .i64 k1,.str s1,.str r1,.int .i64 v1,a1,b1,.int .i64 p1]) 4)=a1 from rfl,Br_ge]
     rw[List.drop_length] at hQ
     exact hQ
    ·intro i hi ih hQ
     refine w88_9 ?_
     rw[show(fld (Dat.agg [.int .i64 k1,.str s1,.str r1,.int .i64 v1,a1,b1,.int .i64 p1]) 4)=a1 from rfl,Br_lt hi,getE_nat hi]
     have hsz:=sizeOf_el hi
     rw[List.drop_eq_getElem_cons hi,List.map_cons,okExs] at hQ
     refine⟨inB hi,rExpr_ok k _ g (by omega) (ex.2 _ (List.getElem_mem hi)) _ ⟨_,rfl,Br_iff.2 ⟨λq=>?_,λq=>?_⟩⟩⟩
     ·rw[show okEx (absEx (elsOf a1)[i])=false by simpa using q] at hQ;exact hQ
     ·rw[show okEx (absEx (elsOf a1)[i])=true by simpa using q,Bool.true_and] at hQ
      rw[wrap_nat (by omega)]
      exact ih hQ
   refine loopUp (len:=(elsOf b1).length) (λi=>Qf (.val (.d (.bool (okPts (((elsOf b1).drop i).map absPt)&&okExs ((elsOf a1).map absEx))))) g→L88_4 (i:Int) (.agg [.int .i64 k1,.str s1,.str r1,.int .i64 v1,a1,b1,.int .i64 p1]) g Qf) ?_ ?_ 0 (Nat.zero_le _) hQ
   ·intro hQ
    refine w88_4 ?_
    rw[show(fld (Dat.agg [.int .i64 k1,.str s1,.str r1,.int .i64 v1,a1,b1,.int .i64 p1]) 5)=b1 from rfl,Br_ge]
    rw[List.drop_length] at hQ
    exact args hQ
   ·intro i hi ih hQ
    refine w88_4 ?_
    rw[show(fld (Dat.agg [.int .i64 k1,.str s1,.str r1,.int .i64 v1,a1,b1,.int .i64 p1]) 5)=b1 from rfl,Br_lt hi,getE_nat hi]
    rw[List.drop_eq_getElem_cons hi,List.map_cons,okPts] at hQ
    refine⟨inB hi,rPat_ok _ _ g (Nat.lt_succ_self _) (eu.2 _ (List.getElem_mem hi)) _ ⟨_,rfl,Br_iff.2 ⟨λq=>?_,λq=>?_⟩⟩⟩
    ·rw[show okPt (absPt (elsOf b1)[i])=false by simpa using q] at hQ;exact hQ
    ·rw[show okPt (absPt (elsOf b1)[i])=true by simpa using q,Bool.true_and] at hQ
     rw[wrap_nat (by omega)]
     exact ih hQ
theorem fullExpr_ok:∀(k:Nat) (x:Dat) (g:Glob),SizeOf.sizeOf x<k→HasTy TT 26 x→∀(Qf:OGP),Qf (.val (.d (.bool (flEx (absEx x))))) g→EvF TT 140 [x] g Qf
 |0,x,g,hk,_=>by omega
 |k+1,x,g,hk,hx=>by
  intro Qf hQ
  refine w140 hx ?_
  obtain⟨k1,s1,r1,v1,a1,b1,p1,rfl,hs1,hr1,t1,u1⟩:=expr_ty hx
  simp only[absEx,flEx,absExA_len,absPtA_len] at hQ
  have ex:=t1.els undExprs
  have exl:=ex.1.1
  have eu:=u1.els undPats
  have eul:=eu.1.1
  have hc:=sizeOf_cell (cs:=[.int .i64 k1,.str s1,.str r1,.int .i64 v1,a1,b1,.int .i64 p1]) (c:=a1) (by simp)
  simp only[fld,nth,intOf,strOf]
  have rest:((k1==8)&&gt8 ((elsOf a1).length:Int))=false→L140_4 0 (.agg [.int .i64 k1,.str s1,.str r1,.int .i64 v1,a1,b1,.int .i64 p1]) g Qf:=by
   intro hb
   rw[hb,Bool.false_or,absPtA_map,absExA_map] at hQ
   have args:Qf (.val (.d (.bool (flExs ((elsOf a1).map absEx))))) g→L140_9 0 (.agg [.int .i64 k1,.str s1,.str r1,.int .i64 v1,a1,b1,.int .i64 p1]) g Qf:=by
    refine loopUp (len:=(elsOf a1).length) (λi=>Qf (.val (.d (.bool (flExs (((elsOf a1).drop i).map absEx))))) g→L140_9 (i:Int) (.agg [.int .i64 k1,.str s1,.str r1,.int .i64 v1,a1,b1,.int .i64 p1]) g Qf) ?_ ?_ 0 (Nat.zero_le _)
    ·intro hQ
     refine w140_9 ?_
     rw[show(fld (Dat.agg [.int .i64 k1,.str s1,.str r1,.int .i64 v1,a1,b1,.int .i64 p1]) 4)=a1 from rfl,Br_ge]
     rw[List.drop_length] at hQ
     exact hQ
    ·intro i hi ih hQ
     refine w140_9 ?_
     rw[show(fld (Dat.agg [.int .i64 k1,.str s1,.str r1,.int .i64 v1,a1,b1,.int .i64 p1]) 4)=a1 from rfl,Br_lt hi,getE_nat hi]
     have hsz:=sizeOf_el hi
     rw[List.drop_eq_getElem_cons hi,List.map_cons,flExs] at hQ
     refine⟨inB hi,fullExpr_ok k _ g (by omega) (ex.2 _ (List.getElem_mem hi)) _ ⟨_,rfl,Br_iff.2 ⟨λq=>?_,λq=>?_⟩⟩⟩
     ·rw[q] at hQ;exact hQ
     ·rw[q,Bool.false_or] at hQ
      rw[wrap_nat (by omega)]
      exact ih hQ
   refine loopUp (len:=(elsOf b1).length) (λi=>Qf (.val (.d (.bool (flPts (((elsOf b1).drop i).map absPt)||flExs ((elsOf a1).map absEx))))) g→L140_4 (i:Int) (.agg [.int .i64 k1,.str s1,.str r1,.int .i64 v1,a1,b1,.int .i64 p1]) g Qf) ?_ ?_ 0 (Nat.zero_le _) hQ
   ·intro hQ
    refine w140_4 ?_
    rw[show(fld (Dat.agg [.int .i64 k1,.str s1,.str r1,.int .i64 v1,a1,b1,.int .i64 p1]) 5)=b1 from rfl,Br_ge]
    rw[List.drop_length] at hQ
    exact args hQ
   ·intro i hi ih hQ
    refine w140_4 ?_
    rw[show(fld (Dat.agg [.int .i64 k1,.str s1,.str r1,.int .i64 v1,a1,b1,.int .i64 p1]) 5)=b1 from rfl,Br_lt hi,getE_nat hi]
    rw[List.drop_eq_getElem_cons hi,List.map_cons,flPts,Bool.or_assoc] at hQ
    refine⟨inB hi,fullPat_ok _ _ g (Nat.lt_succ_self _) (eu.2 _ (List.getElem_mem hi)) _ ⟨_,rfl,Br_iff.2 ⟨λq=>?_,λq=>?_⟩⟩⟩
    ·rw[q] at hQ;exact hQ
    ·rw[q,Bool.false_or] at hQ
     rw[wrap_nat (by omega)]
     exact ih hQ
  refine Br_iff.2 ⟨λq=>Br_iff.2 ⟨λq'=>?_,λq'=>?_⟩,λq=>?_⟩
  ·rw[q,show gt8 _=true from q'] at hQ;exact hQ
  ·exact rest (by rw[q,show gt8 _=false from q'];rfl)
  ·exact rest (by rw[q];rfl)
end Go.Proofs.YtiheejdkkjfenaaGreatDoor.Pa
