/- Useful: values of a type; what is useful meets a value that nothing ahead meets. What functions of the program do, printed by wip/tools/sx/sx.py. -/
import Derived.Test.YtiheejdkkjfenaaGreatDoorSJ
set_option linter.all false
set_option autoImplicit false
set_option maxRecDepth 100000
namespace Go.Proofs.YtiheejdkkjfenaaGreatDoor.Pa
open Go Go.Proofs.YtiheejdkkjfenaaGreatDoor.Am
end Go.Proofs.YtiheejdkkjfenaaGreatDoor.Pa
namespace Go.Proofs.YtiheejdkkjfenaaGreatDoor.Pa
open Go Go.Proofs.YtiheejdkkjfenaaGreatDoor.Am
def L6_9(x5:Dat)(x7:Dat)(n10:Int)(y6:Dat)(y4:Dat)(g:Glob)(Qf:OGP):Prop:=CutP TT Tryz.f6 [1,1,1,1,1,0,1,0] Qf (mkC TT 6 Tryz.f6 1 [(4,.loc 4 0 0),(5,.v 24 (x5)),(6,.loc 6 0 0),(7,.v 22 (x7)),(10,.v 3 (.int .i64 n10))] [(6,.whole 55 y6),(4,.whole 61 y4)] g)
def lo6:List CutI:=[⟨9,[(4,.keep),(5,.keep),(6,.keep),(7,.keep),(10,.keep)],[(6,.whole 55),(4,.whole 61)]⟩,⟨17,[(5,.keep),(6,.keep),(7,.keep),(11,.keep),(12,.keep),(13,.keep),(14,.keep),(15,.keep),(16,.keep)],[(6,.whole 55)]⟩,⟨24,[(13,.keep),(14,.keep),(15,.keep),(17,.keep)],[]⟩]
theorem w6{x0:Dat}{g:Glob}{Qf:OGP}(h0:HasTy TT 63 x0)
 (h:EvF TT 26 [fld (.agg [fld x0 0,.int .i64 0,.str [],.str [],.int .i64 0,.nil,.nil,.int .i64 0]) 0] g (KQ Qf λv g'=>∃b,v=.d (.bool b)∧Br b (EvF TT 9 [] g' (KQ Qf λv g'=>∃b,v=.d (.bool b)∧Qf (.val (.d (.bool b))) g')) (EvF TT 27 [sub x0 1 4] g' (KQ Qf λv g'=>∃b,v=.d (.bool b)∧Br b (EvF TT 9 [] g' (KQ Qf λv g'=>∃b,v=.d (.bool b)∧Qf (.val (.d (.bool b))) g')) (EvF TT 14 [fld (.agg [fld x0 0,.int .i64 0,.str [],.str [],.int .i64 0,.nil,.nil,.int .i64 0]) 0,fld x0 5] g' (KQ Qf λv g'=>∃b,v=.d (.bool b)∧Br b (EvF TT 9 [] g' (KQ Qf λv g'=>∃b,v=.d (.bool b)∧Qf (.val (.d (.bool b))) g')) (EvF TT 22 [sub x0 6 3] g' (KQ Qf λv g'=>∃b,v=.d (.bool b)∧Br b (EvF TT 9 [] g' (KQ Qf λv g'=>∃b,v=.d (.bool b)∧Qf (.val (.d (.bool b))) g')) (EvF TT 15 [.agg [fld x0 0,.int .i64 0,.str [],.str [],.int .i64 0,.nil,.nil,.int .i64 0]] g' (KQ Qf λv g'=>∃x,HasTy TT 22 x∧RetV v x∧EvF TT 28 [.agg [fld (.agg [fld x0 0,.int .i64 0,.str [],.str [],.int .i64 0,.nil,.nil,.int .i64 0]) 0,.int .i64 2,.str [],.str [],.int .i64 0,.nil,.nil,.int .i64 0]] g' (KQ Qf λv g'=>∃n n_1,RetT v [.int .i64 n,.int .i64 n_1]∧Br (n !=0) (EvF TT 9 [] g' (KQ Qf λv g'=>∃b,v=.d (.bool b)∧Qf (.val (.d (.bool b))) g')) (EvF TT 29 [x,sub x0 1 4,sub x0 6 3,.int .i64 200] g' (KQ Qf λv g'=>∃b,v=.d (.bool b)∧Br (!b) (EvF TT 9 [] g' (KQ Qf λv g'=>∃b,v=.d (.bool b)∧Qf (.val (.d (.bool b))) g')) (L6_9 (fld x0 5) x 0 (sub x0 6 3) (sub x0 1 4) g' Qf)))))))))))))):
 EvF TT 6 [x0] g Qf:=
 sx_fun (rk:=rk) (fn:=Tryz.f6) (loops:=lo6) (joins:=[]) (n:=100000) (args:=[(63,x0)]) rfl rfl rfl rfl ⟨h0,trivial⟩ (by kernel_rfl) h
def L19_6(x0:Dat)(x6:Dat)(l7:List Dat)(x18:Dat)(n19:Int)(n20:Int)(g:Glob)(Qf:OGP):Prop:=CutP TT Tryz.f19 [1,1,1,1,0,1,0] Qf (mkC TT 19 Tryz.f19 2 [(0,.v 22 (x0)),(6,.v 86 (x6)),(7,.acc [(42,0)] 46 1 l7),(18,.v 86 (x18)),(19,.v 3 (.int .i64 n19)),(20,.v 3 (.int .i64 n20))] [] g)
def lo19:List CutI:=[⟨6,[(0,.keep),(6,.keep),(7,.acc [42]),(18,.keep),(19,.keep),(20,.keep)],[]⟩]
theorem w19{x0:Dat}{x1:Dat}{g:Glob}{Qf:OGP}(h0:HasTy TT 22 x0)(h1:HasTy TT 24 x1)
 (h:EvF TT 43 [x1] g (KQ Qf λv g'=>∃x,HasTy TT 86 x∧RetV v x∧EvF TT 46 [x0,x,.int .i64 1] g' (KQ Qf λv g'=>∃b,v=.d (.bool b)∧Br (!b) (∀(us:List Val),RetL us [.nil,.int .i64 1]→Qf (.val (.tuple us)) g') (L19_6 x0 x [] x (↑(elsOf x).length:Int) 0 g' Qf)))):
 EvF TT 19 [x0,x1] g Qf:=
 sx_fun (rk:=rk) (fn:=Tryz.f19) (loops:=lo19) (joins:=[]) (n:=100000) (args:=[(22,x0),(24,x1)]) rfl rfl rfl rfl ⟨h0,h1,trivial⟩ (by kernel_rfl) h
theorem w19_6{x0:Dat}{x6:Dat}{l7:List Dat}{x18:Dat}{n19:Int}{n20:Int}{g:Glob}{Qf:OGP}
 (h:Br (decide (n20<n19)) (InB n20 (elsOf x18).length∧InS 0 n20 (elsOf x6).length∧EvF TT 47 [x0,slSub 1 x6 (elsOf x6) 0 n20,fld (getE (elsOf x18) n20) 0] g (KQ Qf λv g'=>∃b n,RetT v [.bool b,.int .i64 n]∧Br (n !=0) (∀(us:List Val),RetL us [.nil,.int .i64 n]→Qf (.val (.tuple us)) g') (Br (!b) (Fits (l7.length+[Dat.int .i64 n20].length) 8∧L19_6 x0 x6 (l7++[Dat.int .i64 n20]) x18 n19 (IntKind.i64.wrap (n20+1)) g' Qf) (L19_6 x0 x6 l7 x18 n19 (IntKind.i64.wrap (n20+1)) g' Qf)))) (∀(us:List Val),RetL us [slOf 1 l7,.int .i64 0]→Qf (.val (.tuple us)) g)):
 L19_6 x0 x6 l7 x18 n19 n20 g Qf:=sx_cut (rk:=rk) (loops:=lo19) (joins:=[]) (n:=100000) (by kernel_rfl) h
end Go.Proofs.YtiheejdkkjfenaaGreatDoor.Pa
