/- What functions of the program do, printed by wip/tools/sx/sx.py. Show: what is written on pages, of the program's and of the document's. -/
import Derived.Test.YtmlghadphdpbjaaGreatDoorSA
set_option linter.all false
set_option autoImplicit false
set_option maxRecDepth 100000
namespace Go.Proofs.YtmlghadphdpbjaaGreatDoor.Pa
open Go Go.Proofs.YtmlghadphdpbjaaGreatDoor.Am
def lo3:List CutI:=[]
theorem w3{x0:Dat}{x1:Dat}{g:Glob}{Qf:OGP}(h0:HasTy TT 25 x0)(h1:HasTy TT 28 x1)
 (h:EvF TT 8 [x0] g (KQ Qf λv g'=>∃b,v=.d (.bool b)∧Br b (EvF TT 10 [] g' (KQ Qf λv g'=>∃b,v=.d (.bool b)∧Qf (.val (.d (.bool b))) g')) (EvF TT 9 [x1] g' (KQ Qf λv g'=>∃b,v=.d (.bool b)∧Br b (EvF TT 10 [] g' (KQ Qf λv g'=>∃b,v=.d (.bool b)∧Qf (.val (.d (.bool b))) g')) (EvF TT 12 [.sl 7 [x0]] g' (KQ Qf λv g'=>∃x,HasTy TT 22 x∧RetV v x∧InB 0 (elsOf x).length∧EvF TT 11 [getE (elsOf x) 0] g' (KQ Qf λv g'=>∃s,s.length.le 1099511627776∧∃n,RetT v [.str s,.int .i64 n]∧EvF TT 13 [x0] g' (KQ Qf λv g'=>∃s_1,s_1.length.le 1099511627776∧∃n_1,RetT v [.str s_1,.int .i64 n_1]∧EvF TT 15 [x1] g' (KQ Qf λv g'=>∃x,HasTy TT 28 x∧v=.d x∧EvF TT 14 [x] g' (KQ Qf λv g'=>∃s_2,s_2.length.le 1099511627776∧∃n_2,RetT v [.str s_2,.int .i64 n_2]∧EvF TT 16 [x1] g' (KQ Qf λv g'=>∃s_3,s_3.length.le 1099511627776∧∃n_3,RetT v [.str s_3,.int .i64 n_3]∧Br (n==n_1) (Br (s==s_1) (Br (n_2==n_3) (Br (s_2==s_3) (EvF TT 10 [] g' (KQ Qf λv g'=>∃b,v=.d (.bool b)∧Qf (.val (.d (.bool b))) g')) (Qf (.val (.d (.bool false))) g')) (Qf (.val (.d (.bool false))) g')) (Qf (.val (.d (.bool false))) g')) (Qf (.val (.d (.bool false))) g')))))))))))):
 EvF TT 3 [x0,x1] g Qf:=
 sx_fun (rk:=rk) (fn:=Tryz.f3) (loops:=lo3) (joins:=[]) (n:=100000) (args:=[(25,x0),(28,x1)]) rfl rfl rfl rfl ⟨h0,h1,trivial⟩ (by kernel_rfl) h
def lo5:List CutI:=[]
theorem w5{x0:Dat}{g:Glob}{Qf:OGP}(h0:HasTy TT 44 x0)
 (h:EvF TT 19 [x0] g (KQ Qf λv g'=>∃b,v=.d (.bool b)∧Br b (EvF TT 10 [] g' (KQ Qf λv g'=>∃b,v=.d (.bool b)∧Qf (.val (.d (.bool b))) g')) (EvF TT 20 [x0] g' (KQ Qf λv g'=>∃x,HasTy TT 44 x∧v=.d x∧EvF TT 21 [x] g' (KQ Qf λv g'=>∃s,s.length.le 1099511627776∧∃n,RetT v [.str s,.int .i64 n]∧EvF TT 22 [x0] g' (KQ Qf λv g'=>∃s_1,s_1.length.le 1099511627776∧∃n_1,RetT v [.str s_1,.int .i64 n_1]∧Br (n==n_1) (Br (s==s_1) (EvF TT 23 [x,x0,.bool true] g' (KQ Qf λv g'=>∃b,v=.d (.bool b)∧Br b (EvF TT 10 [] g' (KQ Qf λv g'=>∃b,v=.d (.bool b)∧Qf (.val (.d (.bool b))) g')) (Qf (.val (.d (.bool false))) g'))) (Qf (.val (.d (.bool false))) g')) (Qf (.val (.d (.bool false))) g'))))))):
 EvF TT 5 [x0] g Qf:=
 sx_fun (rk:=rk) (fn:=Tryz.f5) (loops:=lo5) (joins:=[]) (n:=100000) (args:=[(44,x0)]) rfl rfl rfl rfl ⟨h0,trivial⟩ (by kernel_rfl) h
def L21_5(p4:Nat)(x16:Dat)(n17:Int)(n18:Int)(y1:Dat)(g:Glob)(Qf:OGP):Prop:=CutP TT Tryz.f21 [1,1,1,0,1,0] Qf (mkC TT 21 Tryz.f21 1 [(1,.loc 1 0 0),(4,.v 62 (.ptr (some (p4,0)))),(16,.v 42 (x16)),(17,.v 3 (.int .i64 n17)),(18,.v 3 (.int .i64 n18))] [(1,.whole 44 y1)] g)
def lo21:List CutI:=[⟨5,[(1,.keep),(4,.keep),(16,.keep),(17,.keep),(18,.keep)],[(1,.whole 44)]⟩]
theorem w21{x0:Dat}{g:Glob}{Qf:OGP}(h0:HasTy TT 44 x0)
 (h:EvF TT 26 [x0] g (KQ Qf λv g'=>∃b,v=.d (.bool b)∧Br (!b) (Qf (.val (.tuple [.d (.str []),.d (.int .i64 1)])) g') (L21_5 (gnew g' [.nil]).boxes.length (fld x0 0) (↑(elsOf (fld x0 0)).length:Int) 0 x0 (gnew (gnew g' [.nil]) [.iface 63 (.ptr (some (g'.boxes.length,0)))]) Qf))):
 EvF TT 21 [x0] g Qf:=
 sx_fun (rk:=rk) (fn:=Tryz.f21) (loops:=lo21) (joins:=[]) (n:=100000) (args:=[(44,x0)]) rfl rfl rfl rfl ⟨h0,trivial⟩ (by kernel_rfl) h
theorem w21_5{p4:Nat}{x16:Dat}{n17:Int}{n18:Int}{y1:Dat}{g:Glob}{Qf:OGP}
 (h:Br (decide (n18<n17)) (InB n18 (elsOf x16).length∧EvF TT 42 [.ptr (some (p4,0)),getE (elsOf x16) n18] g (KQ Qf λv g'=>RetT v []∧L21_5 p4 x16 n17 (IntKind.i64.wrap (n18+1)) y1 g' Qf)) (EvF TT 27 [.ptr (some (p4,0)),sub y1 1 7] g (KQ Qf λv g'=>RetT v []∧∃x,HasTy TT 68 x∧GOk TT 68 g' p4 0 x∧∃t v fn,x=.iface t v∧Meth TT t "athanor/show.put" fn∧EvF TT fn [v,.sl 1 [.str [10]]] g' (KQ Qf λv g'=>RetT v []∧EvF TT 28 [.ptr (some (p4,0))] g' (KQ Qf λv g'=>∃s,s.length.le 1099511627776∧∃n,RetT v [.str s,.int .i64 n]∧Qf (.val (.tuple [.d (.str s),.d (.int .i64 n)])) g'))))):
 L21_5 p4 x16 n17 n18 y1 g Qf:=sx_cut (rk:=rk) (loops:=lo21) (joins:=[]) (n:=100000) (by kernel_rfl) h
def L27_19(p0:Nat)(x67:Dat)(n68:Int)(n69:Int)(g:Glob)(Qf:OGP):Prop:=CutP TT Tryz.f27 [1,1,0,1,1,1,1,1,1,1,1,1,1,1,1,1,0,1,1,0] Qf (mkC TT 27 Tryz.f27 2 [(0,.v 62 (.ptr (some (p0,0)))),(67,.v 22 (x67)),(68,.v 3 (.int .i64 n68)),(69,.v 3 (.int .i64 n69))] [] g)
def lo27:List CutI:=[⟨19,[(0,.keep),(67,.keep),(68,.keep),(69,.keep)],[]⟩]
theorem w27{p0:Nat}{x1:Dat}{g:Glob}{Qf:OGP}(h1:HasTy TT 25 x1)
 (h:Br (intOf (fld x1 0)==1) (∃x,HasTy TT 68 x∧GOk TT 68 g p0 0 x∧∃t v fn,x=.iface t v∧Meth TT t "athanor/show.put" fn∧EvF TT fn [v,.sl 1 [.str (strOf (fld x1 1))]] g (KQ Qf λv g'=>RetT v []∧Qf (.val (.tuple [])) g'))
 (Br (intOf (fld x1 0)==2) (EvF TT 52 [.ptr (some (p0,0)),.int .i64 (intOf (fld x1 3))] g (KQ Qf λv g'=>RetT v []∧Qf (.val (.tuple [])) g'))
  (Br (intOf (fld x1 0)==3) (∃x,HasTy TT 68 x∧GOk TT 68 g p0 0 x∧∃t v fn,x=.iface t v∧Meth TT t "athanor/show.put" fn∧EvF TT fn [v,.sl 1 [.str [102,117,110,32],.str (strOf (fld x1 1)),.str [32,45,62,32]]] g (KQ Qf λv g'=>RetT v []∧InB 0 (elsOf (fld x1 4)).length∧EvF TT 27 [.ptr (some (p0,0)),getE (elsOf (fld x1 4)) 0] g' (KQ Qf λv g'=>RetT v []∧Qf (.val (.tuple [])) g')))
   (Br (intOf (fld x1 0)==4) (EvF TT 53 [.ptr (some (p0,0)),x1] g (KQ Qf λv g'=>RetT v []∧Qf (.val (.tuple [])) g'))
    (Br (intOf (fld x1 0)==5) (Br (intOf (fld x1 0)==5) (EvF TT 54 [.ptr (some (p0,0)),x1] g (KQ Qf λv g'=>RetT v []∧Qf (.val (.tuple [])) g')) (Br (intOf (fld x1 0)==7) (EvF TT 55 [.ptr (some (p0,0)),x1] g (KQ Qf λv g'=>RetT v []∧Qf (.val (.tuple [])) g')) (Br (intOf (fld x1 0)==8) (∃x,HasTy TT 68 x∧GOk TT 68 g p0 0 x∧∃t v fn,x=.iface t v∧Meth TT t "athanor/show.put" fn∧EvF TT fn [v,.sl 1 [.str (strOf (fld x1 1))]] g (KQ Qf λv g'=>RetT v []∧L27_19 p0 (fld x1 4) (↑(elsOf (fld x1 4)).length:Int) 0 g' Qf)) (Br (intOf (fld x1 0)==9) (InB 0 (elsOf (fld x1 4)).length∧EvF TT 56 [.ptr (some (p0,0)),getE (elsOf (fld x1 4)) 0] g (KQ Qf λv g'=>RetT v []∧∃x,HasTy TT 68 x∧GOk TT 68 g' p0 0 x∧∃t v fn,x=.iface t v∧Meth TT t "athanor/show.put" fn∧EvF TT fn [v,.sl 1 [.str [32],.str (strOf (fld x1 1)),.str [32]]] g' (KQ Qf λv g'=>RetT v []∧InB 1 (elsOf (fld x1 4)).length∧EvF TT 56 [.ptr (some (p0,0)),getE (elsOf (fld x1 4)) 1] g' (KQ Qf λv g'=>RetT v []∧Qf (.val (.tuple [])) g')))) (Br (intOf (fld x1 0)==10) (∃x,HasTy TT 68 x∧GOk TT 68 g p0 0 x∧∃t v fn,x=.iface t v∧Meth TT t "athanor/show.put" fn∧EvF TT fn [v,.sl 1 [.str [112,114,105,110,116,32]]] g (KQ Qf λv g'=>RetT v []∧InB 0 (elsOf (fld x1 4)).length∧EvF TT 56 [.ptr (some (p0,0)),getE (elsOf (fld x1 4)) 0] g' (KQ Qf λv g'=>RetT v []∧Qf (.val (.tuple [])) g'))) (Qf (.val (.tuple [])) g)))))) (Br (intOf (fld x1 0)==6) (EvF TT 54 [.ptr (some (p0,0)),x1] g (KQ Qf λv g'=>RetT v []∧Qf (.val (.tuple [])) g')) (Br (intOf (fld x1 0)==7) (EvF TT 55 [.ptr (some (p0,0)),x1] g (KQ Qf λv g'=>RetT v []∧Qf (.val (.tuple [])) g')) (Br (intOf (fld x1 0)==8) (∃x,HasTy TT 68 x∧GOk TT 68 g p0 0 x∧∃t v fn,x=.iface t v∧Meth TT t "athanor/show.put" fn∧EvF TT fn [v,.sl 1 [.str (strOf (fld x1 1))]] g (KQ Qf λv g'=>RetT v []∧L27_19 p0 (fld x1 4) (↑(elsOf (fld x1 4)).length:Int) 0 g' Qf)) (Br (intOf (fld x1 0)==9) (InB 0 (elsOf (fld x1 4)).length∧EvF TT 56 [.ptr (some (p0,0)),getE (elsOf (fld x1 4)) 0] g (KQ Qf λv g'=>RetT v []∧∃x,HasTy TT 68 x∧GOk TT 68 g' p0 0 x∧∃t v fn,x=.iface t v∧Meth TT t "athanor/show.put" fn∧EvF TT fn [v,.sl 1 [.str [32],.str (strOf (fld x1 1)),.str [32]]] g' (KQ Qf λv g'=>RetT v []∧InB 1 (elsOf (fld x1 4)).length∧EvF TT 56 [.ptr (some (p0,0)),getE (elsOf (fld x1 4)) 1] g' (KQ Qf λv g'=>RetT v []∧Qf (.val (.tuple [])) g')))) (Br (intOf (fld x1 0)==10) (∃x,HasTy TT 68 x∧GOk TT 68 g p0 0 x∧∃t v fn,x=.iface t v∧Meth TT t "athanor/show.put" fn∧EvF TT fn [v,.sl 1 [.str [112,114,105,110,116,32]]] g (KQ Qf λv g'=>RetT v []∧InB 0 (elsOf (fld x1 4)).length∧EvF TT 56 [.ptr (some (p0,0)),getE (elsOf (fld x1 4)) 0] g' (KQ Qf λv g'=>RetT v []∧Qf (.val (.tuple [])) g'))) (Qf (.val (.tuple [])) g))))))))))):
  EvF TT 27 [.ptr (some (p0,0)),x1] g Qf:=
 sx_fun (rk:=rk) (fn:=Tryz.f27) (loops:=lo27) (joins:=[]) (n:=100000) (args:=[(62,.ptr (some (p0,0))),(25,x1)]) rfl rfl rfl rfl ⟨tyPtr rfl,h1,trivial⟩ (by kernel_rfl) h
theorem w27_19{p0:Nat}{x67:Dat}{n68:Int}{n69:Int}{g:Glob}{Qf:OGP}
 (h:Br (decide (n69<n68)) (InB n69 (elsOf x67).length∧∃x,HasTy TT 68 x∧GOk TT 68 g p0 0 x∧∃t v fn,x=.iface t v∧Meth TT t "athanor/show.put" fn∧EvF TT fn [v,.sl 1 [.str [32]]] g (KQ Qf λv g'=>RetT v []∧EvF TT 56 [.ptr (some (p0,0)),getE (elsOf x67) n69] g' (KQ Qf λv g'=>RetT v []∧L27_19 p0 x67 n68 (IntKind.i64.wrap (n69+1)) g' Qf))) (Qf (.val (.tuple [])) g)):
 L27_19 p0 x67 n68 n69 g Qf:=sx_cut (rk:=rk) (loops:=lo27) (joins:=[]) (n:=100000) (by kernel_rfl) h
def lo28:List CutI:=[]
theorem w28{p0:Nat}{g:Glob}{Qf:OGP}
 (h:∃x,HasTy TT 68 x∧GOk TT 68 g p0 0 x∧∃t v fn,x=.iface t v∧Meth TT t "athanor/show.text" fn∧EvF TT fn [v] g (KQ Qf λv g'=>∃s,s.length.le 1099511627776∧v=.d (.str s)∧Br (decide (8192<(↑s.length:Int))) (Qf (.val (.tuple [.d (.str []),.d (.int .i64 2)])) g') (Qf (.val (.tuple [.d (.str s),.d (.int .i64 0)])) g'))):
 EvF TT 28 [.ptr (some (p0,0))] g Qf:=
 sx_fun (rk:=rk) (fn:=Tryz.f28) (loops:=lo28) (joins:=[]) (n:=100000) (args:=[(62,.ptr (some (p0,0)))]) rfl rfl rfl rfl ⟨tyPtr rfl,trivial⟩ (by kernel_rfl) h
def lo33:List CutI:=[]
theorem w33{p0:Nat}{x1:Dat}{g:Glob}{Qf:OGP}(h1:HasTy TT 28 x1)
 (h:Br (intOf (fld x1 0)==1) (∃x,HasTy TT 68 x∧GOk TT 68 g p0 0 x∧∃t v fn,x=.iface t v∧Meth TT t "athanor/show.put" fn∧EvF TT fn [v,.sl 1 [.str [105,110,116]]] g (KQ Qf λv g'=>RetT v []∧Qf (.val (.tuple [])) g')) (Br (intOf (fld x1 0)==2) (∃x,HasTy TT 68 x∧GOk TT 68 g p0 0 x∧∃t v fn,x=.iface t v∧Meth TT t "athanor/show.put" fn∧EvF TT fn [v,.sl 1 [.str [39],.str (strOf (fld x1 1))]] g (KQ Qf λv g'=>RetT v []∧Qf (.val (.tuple [])) g')) (Br (intOf (fld x1 0)==3) (InB 0 (elsOf (fld x1 3)).length∧Br (intOf (fld (getE (elsOf (fld x1 3)) 0) 0)==3) (InB 0 (elsOf (fld x1 3)).length∧EvF TT 70 [.ptr (some (p0,0)),Dat.bnd 33 (.ptr (some (p0,0))),getE (elsOf (fld x1 3)) 0] g (KQ Qf λv g'=>RetT v []∧∃x,HasTy TT 68 x∧GOk TT 68 g' p0 0 x∧∃t v fn,x=.iface t v∧Meth TT t "athanor/show.put" fn∧EvF TT fn [v,.sl 1 [.str [32,45,62,32]]] g' (KQ Qf λv g'=>RetT v []∧InB 1 (elsOf (fld x1 3)).length∧EvF TT 33 [.ptr (some (p0,0)),getE (elsOf (fld x1 3)) 1] g' (KQ Qf λv g'=>RetT v []∧Qf (.val (.tuple [])) g')))) (InB 0 (elsOf (fld x1 3)).length∧EvF TT 33 [.ptr (some (p0,0)),getE (elsOf (fld x1 3)) 0] g (KQ Qf λv g'=>RetT v []∧∃x,HasTy TT 68 x∧GOk TT 68 g' p0 0 x∧∃t v fn,x=.iface t v∧Meth TT t "athanor/show.put" fn∧EvF TT fn [v,.sl 1 [.str [32,45,62,32]]] g' (KQ Qf λv g'=>RetT v []∧InB 1 (elsOf (fld x1 3)).length∧EvF TT 33 [.ptr (some (p0,0)),getE (elsOf (fld x1 3)) 1] g' (KQ Qf λv g'=>RetT v []∧Qf (.val (.tuple [])) g'))))) (∃x,HasTy TT 68 x∧GOk TT 68 g p0 0 x∧∃t v fn,x=.iface t v∧Meth TT t "athanor/show.put" fn∧EvF TT fn [v,.sl 1 [.str (strOf (fld x1 1))]] g (KQ Qf λv g'=>RetT v []∧EvF TT 71 [.ptr (some (p0,0)),fld x1 3] g' (KQ Qf λv g'=>RetT v []∧Qf (.val (.tuple [])) g')))))):
 EvF TT 33 [.ptr (some (p0,0)),x1] g Qf:=
 sx_fun (rk:=rk) (fn:=Tryz.f33) (loops:=lo33) (joins:=[]) (n:=100000) (args:=[(62,.ptr (some (p0,0))),(28,x1)]) rfl rfl rfl rfl ⟨tyPtr rfl,h1,trivial⟩ (by kernel_rfl) h
def L42_3(p0:Nat)(x18:Dat)(n19:Int)(n20:Int)(y3:Dat)(g:Glob)(Qf:OGP):Prop:=CutP TT Tryz.f42 [1,1,0,1,0] Qf (mkC TT 42 Tryz.f42 2 [(0,.v 62 (.ptr (some (p0,0)))),(3,.loc 3 0 0),(18,.v 47 (x18)),(19,.v 3 (.int .i64 n19)),(20,.v 3 (.int .i64 n20))] [(3,.whole 50 y3)] g)
def L42_9(p0:Nat)(s6:List UInt8)(x33:Dat)(n34:Int)(n35:Int)(g:Glob)(Qf:OGP):Prop:=CutP TT Tryz.f42 [1,1,1,1,0,1,0] Qf (mkC TT 42 Tryz.f42 2 [(0,.v 62 (.ptr (some (p0,0)))),(6,.v 9 (.str s6)),(33,.v 48 (x33)),(34,.v 3 (.int .i64 n34)),(35,.v 3 (.int .i64 n35))] [] g)
def lo42:List CutI:=[⟨3,[(0,.keep),(3,.keep),(18,.keep),(19,.keep),(20,.keep)],[(3,.whole 50)]⟩,⟨9,[(0,.keep),(6,.keep),(33,.keep),(34,.keep),(35,.keep)],[]⟩]
theorem w42{p0:Nat}{x1:Dat}{g:Glob}{Qf:OGP}(h1:HasTy TT 50 x1)
 (h:∃x,HasTy TT 68 x∧GOk TT 68 g p0 0 x∧∃t v fn,x=.iface t v∧Meth TT t "athanor/show.put" fn∧EvF TT fn [v,.sl 1 [.str [116,121,112,101,32],.str (strOf (fld x1 0))]] g (KQ Qf λv g'=>RetT v []∧L42_3 p0 (fld x1 1) (↑(elsOf (fld x1 1)).length:Int) 0 x1 g' Qf)):
 EvF TT 42 [.ptr (some (p0,0)),x1] g Qf:=
 sx_fun (rk:=rk) (fn:=Tryz.f42) (loops:=lo42) (joins:=[]) (n:=100000) (args:=[(62,.ptr (some (p0,0))),(50,x1)]) rfl rfl rfl rfl ⟨tyPtr rfl,h1,trivial⟩ (by kernel_rfl) h
theorem w42_3{p0:Nat}{x18:Dat}{n19:Int}{n20:Int}{y3:Dat}{g:Glob}{Qf:OGP}
 (h:Br (decide (n20<n19)) (InB n20 (elsOf x18).length∧∃x,HasTy TT 68 x∧GOk TT 68 g p0 0 x∧∃t v fn,x=.iface t v∧Meth TT t "athanor/show.put" fn∧EvF TT fn [v,.sl 1 [.str [32,39],.str (strOf (fld (getE (elsOf x18) n20) 0))]] g (KQ Qf λv g'=>RetT v []∧L42_3 p0 x18 n19 (IntKind.i64.wrap (n20+1)) y3 g' Qf)) (L42_9 p0 [32,61,32] (fld y3 2) (↑(elsOf (fld y3 2)).length:Int) 0 g Qf)):
 L42_3 p0 x18 n19 n20 y3 g Qf:=sx_cut (rk:=rk) (loops:=lo42) (joins:=[]) (n:=100000) (by kernel_rfl) h
theorem w42_9{p0:Nat}{s6:List UInt8}{x33:Dat}{n34:Int}{n35:Int}{g:Glob}{Qf:OGP}
 (h:Br (decide (n35<n34)) (InB n35 (elsOf x33).length∧∃x,HasTy TT 68 x∧GOk TT 68 g p0 0 x∧∃t v fn,x=.iface t v∧Meth TT t "athanor/show.put" fn∧EvF TT fn [v,.sl 1 [.str s6,.str (strOf (fld (getE (elsOf x33) n35) 0))]] g (KQ Qf λv g'=>RetT v []∧EvF TT 71 [.ptr (some (p0,0)),fld (getE (elsOf x33) n35) 1] g' (KQ Qf λv g'=>RetT v []∧L42_9 p0 [32,124,32] x33 n34 (IntKind.i64.wrap (n35+1)) g' Qf))) (∃x,HasTy TT 68 x∧GOk TT 68 g p0 0 x∧∃t v fn,x=.iface t v∧Meth TT t "athanor/show.put" fn∧EvF TT fn [v,.sl 1 [.str [59,10]]] g (KQ Qf λv g'=>RetT v []∧Qf (.val (.tuple [])) g'))):
 L42_9 p0 s6 x33 n34 n35 g Qf:=sx_cut (rk:=rk) (loops:=lo42) (joins:=[]) (n:=100000) (by kernel_rfl) h
def lo52:List CutI:=[]
theorem w52{p0:Nat}{n1:Int}{g:Glob}{Qf:OGP}
 (h:Br (decide (n1<0)) (∃x,HasTy TT 68 x∧GOk TT 68 g p0 0 x∧∃t v fn,x=.iface t v∧Meth TT t "athanor/show.put" fn∧EvF TT fn [v,.sl 1 [.str [126]]] g (KQ Qf λv g'=>RetT v []∧∃x,HasTy TT 68 x∧GOk TT 68 g' p0 0 x∧EvF TT 97 [.int .i64 (IntKind.i64.wrap (0-n1))] g' λout g'_1=>Outc (λx_1=>GSame TT 68 p0 0 g' g'∧∃u z,x=.iface u z∧Qf (.panic x_1) g'_1) (λv=>∃s,s.length.le 1099511627776∧v=.d (.str s)∧GSame TT 68 p0 0 g' g'_1∧∃u z,x=.iface u z∧∃t v fn,x=.iface t v∧Meth TT t "athanor/show.put" fn∧EvF TT fn [v,.sl 1 [.str s]] g'_1 (KQ Qf λv g'=>RetT v []∧Qf (.val (.tuple [])) g')) out)) (∃x,HasTy TT 68 x∧GOk TT 68 g p0 0 x∧EvF TT 97 [.int .i64 n1] g λout g'=>Outc (λx_1=>GSame TT 68 p0 0 g g∧∃u z,x=.iface u z∧Qf (.panic x_1) g') (λv=>∃s,s.length.le 1099511627776∧v=.d (.str s)∧GSame TT 68 p0 0 g g'∧∃u z,x=.iface u z∧∃t v fn,x=.iface t v∧Meth TT t "athanor/show.put" fn∧EvF TT fn [v,.sl 1 [.str s]] g' (KQ Qf λv g'=>RetT v []∧Qf (.val (.tuple [])) g')) out)):
 EvF TT 52 [.ptr (some (p0,0)),.int .i64 n1] g Qf:=
 sx_fun (rk:=rk) (fn:=Tryz.f52) (loops:=lo52) (joins:=[]) (n:=100000) (args:=[(62,.ptr (some (p0,0))),(3,.int .i64 n1)]) rfl rfl rfl rfl ⟨tyPtr rfl,tyInt rfl,trivial⟩ (by kernel_rfl) h
def lo53:List CutI:=[]
theorem w53{p0:Nat}{x1:Dat}{g:Glob}{Qf:OGP}(h1:HasTy TT 25 x1)
 (h:InB 0 (elsOf (fld x1 4)).length∧Br (intOf (fld (getE (elsOf (fld x1 4)) 0) 0)==4) (InB 0 (elsOf (fld x1 4)).length∧EvF TT 27 [.ptr (some (p0,0)),getE (elsOf (fld x1 4)) 0] g (KQ Qf λv g'=>RetT v []∧∃x,HasTy TT 68 x∧GOk TT 68 g' p0 0 x∧∃t v fn,x=.iface t v∧Meth TT t "athanor/show.put" fn∧EvF TT fn [v,.sl 1 [.str [32]]] g' (KQ Qf λv g'=>RetT v []∧InB 1 (elsOf (fld x1 4)).length∧EvF TT 56 [.ptr (some (p0,0)),getE (elsOf (fld x1 4)) 1] g' (KQ Qf λv g'=>RetT v []∧Qf (.val (.tuple [])) g')))) (Br (intOf (fld (getE (elsOf (fld x1 4)) 0) 0)==8) (InB 0 (elsOf (fld x1 4)).length∧EvF TT 98 [.ptr (some (p0,0)),Dat.bnd 27 (.ptr (some (p0,0))),getE (elsOf (fld x1 4)) 0] g (KQ Qf λv g'=>RetT v []∧∃x,HasTy TT 68 x∧GOk TT 68 g' p0 0 x∧∃t v fn,x=.iface t v∧Meth TT t "athanor/show.put" fn∧EvF TT fn [v,.sl 1 [.str [32]]] g' (KQ Qf λv g'=>RetT v []∧InB 1 (elsOf (fld x1 4)).length∧EvF TT 56 [.ptr (some (p0,0)),getE (elsOf (fld x1 4)) 1] g' (KQ Qf λv g'=>RetT v []∧Qf (.val (.tuple [])) g')))) (InB 0 (elsOf (fld x1 4)).length∧EvF TT 56 [.ptr (some (p0,0)),getE (elsOf (fld x1 4)) 0] g (KQ Qf λv g'=>RetT v []∧∃x,HasTy TT 68 x∧GOk TT 68 g' p0 0 x∧∃t v fn,x=.iface t v∧Meth TT t "athanor/show.put" fn∧EvF TT fn [v,.sl 1 [.str [32]]] g' (KQ Qf λv g'=>RetT v []∧InB 1 (elsOf (fld x1 4)).length∧EvF TT 56 [.ptr (some (p0,0)),getE (elsOf (fld x1 4)) 1] g' (KQ Qf λv g'=>RetT v []∧Qf (.val (.tuple [])) g')))))):
 EvF TT 53 [.ptr (some (p0,0)),x1] g Qf:=
 sx_fun (rk:=rk) (fn:=Tryz.f53) (loops:=lo53) (joins:=[]) (n:=100000) (args:=[(62,.ptr (some (p0,0))),(25,x1)]) rfl rfl rfl rfl ⟨tyPtr rfl,h1,trivial⟩ (by kernel_rfl) h
def lo54:List CutI:=[]
theorem w54{p0:Nat}{x1:Dat}{g:Glob}{Qf:OGP}(h1:HasTy TT 25 x1)
 (h:∃x,HasTy TT 68 x∧GOk TT 68 g p0 0 x∧∃t v fn,x=.iface t v∧Meth TT t "athanor/show.put" fn∧EvF TT fn [v,.sl 1 [.str [108,101,116,32]]] g (KQ Qf λv g'=>RetT v []∧Br (intOf (fld x1 0)==6) (∃x,HasTy TT 68 x∧GOk TT 68 g' p0 0 x∧∃t v fn,x=.iface t v∧Meth TT t "athanor/show.put" fn∧EvF TT fn [v,.sl 1 [.str [114,101,99,32],.str (strOf (fld x1 1)),.str [32],.str (strOf (fld x1 2))]] g' (KQ Qf λv g'=>RetT v []∧∃x,HasTy TT 68 x∧GOk TT 68 g' p0 0 x∧∃t v fn,x=.iface t v∧Meth TT t "athanor/show.put" fn∧EvF TT fn [v,.sl 1 [.str [32,61,32]]] g' (KQ Qf λv g'=>RetT v []∧InB 0 (elsOf (fld x1 4)).length∧EvF TT 27 [.ptr (some (p0,0)),getE (elsOf (fld x1 4)) 0] g' (KQ Qf λv g'=>RetT v []∧∃x,HasTy TT 68 x∧GOk TT 68 g' p0 0 x∧∃t v fn,x=.iface t v∧Meth TT t "athanor/show.put" fn∧EvF TT fn [v,.sl 1 [.str [32,105,110,32]]] g' (KQ Qf λv g'=>RetT v []∧InB 1 (elsOf (fld x1 4)).length∧EvF TT 27 [.ptr (some (p0,0)),getE (elsOf (fld x1 4)) 1] g' (KQ Qf λv g'=>RetT v []∧Qf (.val (.tuple [])) g')))))) (∃x,HasTy TT 68 x∧GOk TT 68 g' p0 0 x∧∃t v fn,x=.iface t v∧Meth TT t "athanor/show.put" fn∧EvF TT fn [v,.sl 1 [.str (strOf (fld x1 1))]] g' (KQ Qf λv g'=>RetT v []∧∃x,HasTy TT 68 x∧GOk TT 68 g' p0 0 x∧∃t v fn,x=.iface t v∧Meth TT t "athanor/show.put" fn∧EvF TT fn [v,.sl 1 [.str [32,61,32]]] g' (KQ Qf λv g'=>RetT v []∧InB 0 (elsOf (fld x1 4)).length∧EvF TT 27 [.ptr (some (p0,0)),getE (elsOf (fld x1 4)) 0] g' (KQ Qf λv g'=>RetT v []∧∃x,HasTy TT 68 x∧GOk TT 68 g' p0 0 x∧∃t v fn,x=.iface t v∧Meth TT t "athanor/show.put" fn∧EvF TT fn [v,.sl 1 [.str [32,105,110,32]]] g' (KQ Qf λv g'=>RetT v []∧InB 1 (elsOf (fld x1 4)).length∧EvF TT 27 [.ptr (some (p0,0)),getE (elsOf (fld x1 4)) 1] g' (KQ Qf λv g'=>RetT v []∧Qf (.val (.tuple [])) g')))))))):
 EvF TT 54 [.ptr (some (p0,0)),x1] g Qf:=
 sx_fun (rk:=rk) (fn:=Tryz.f54) (loops:=lo54) (joins:=[]) (n:=100000) (args:=[(62,.ptr (some (p0,0))),(25,x1)]) rfl rfl rfl rfl ⟨tyPtr rfl,h1,trivial⟩ (by kernel_rfl) h
def L55_5(p0:Nat)(s4:List UInt8)(x21:Dat)(n22:Int)(n23:Int)(y3:Dat)(g:Glob)(Qf:OGP):Prop:=CutP TT Tryz.f55 [1,1,1,1,0,1,0] Qf (mkC TT 55 Tryz.f55 2 [(0,.v 62 (.ptr (some (p0,0)))),(3,.loc 3 0 0),(4,.v 9 (.str s4)),(21,.v 23 (x21)),(22,.v 3 (.int .i64 n22)),(23,.v 3 (.int .i64 n23))] [(3,.whole 25 y3)] g)
def lo55:List CutI:=[⟨5,[(0,.keep),(3,.keep),(4,.keep),(21,.keep),(22,.keep),(23,.keep)],[(3,.whole 25)]⟩]
theorem w55{p0:Nat}{x1:Dat}{g:Glob}{Qf:OGP}(h1:HasTy TT 25 x1)
 (h:∃x,HasTy TT 68 x∧GOk TT 68 g p0 0 x∧∃t v fn,x=.iface t v∧Meth TT t "athanor/show.put" fn∧EvF TT fn [v,.sl 1 [.str [99,97,115,101,32]]] g (KQ Qf λv g'=>RetT v []∧InB 0 (elsOf (fld x1 4)).length∧EvF TT 27 [.ptr (some (p0,0)),getE (elsOf (fld x1 4)) 0] g' (KQ Qf λv g'=>RetT v []∧L55_5 p0 [32,111,102,32] (fld x1 5) (↑(elsOf (fld x1 5)).length:Int) 0 x1 g' Qf))):
 EvF TT 55 [.ptr (some (p0,0)),x1] g Qf:=
 sx_fun (rk:=rk) (fn:=Tryz.f55) (loops:=lo55) (joins:=[]) (n:=100000) (args:=[(62,.ptr (some (p0,0))),(25,x1)]) rfl rfl rfl rfl ⟨tyPtr rfl,h1,trivial⟩ (by kernel_rfl) h
theorem w55_5{p0:Nat}{s4:List UInt8}{x21:Dat}{n22:Int}{n23:Int}{y3:Dat}{g:Glob}{Qf:OGP}
 (h:Br (decide (n23<n22)) (InB n23 (elsOf x21).length∧∃x,HasTy TT 68 x∧GOk TT 68 g p0 0 x∧∃t v fn,x=.iface t v∧Meth TT t "athanor/show.put" fn∧EvF TT fn [v,.sl 1 [.str s4]] g (KQ Qf λv g'=>RetT v []∧EvF TT 99 [.ptr (some (p0,0)),getE (elsOf x21) n23] g' (KQ Qf λv g'=>RetT v []∧∃x,HasTy TT 68 x∧GOk TT 68 g' p0 0 x∧∃t v fn,x=.iface t v∧Meth TT t "athanor/show.put" fn∧EvF TT fn [v,.sl 1 [.str [32,45,62,32]]] g' (KQ Qf λv g'=>RetT v []∧InB (IntKind.i64.wrap (n23+1)) (elsOf (fld y3 4)).length∧Br (intOf (fld (getE (elsOf (fld y3 4)) (IntKind.i64.wrap (n23+1))) 0)==3) (Br (intOf (fld (getE (elsOf (fld y3 4)) (IntKind.i64.wrap (n23+1))) 0)==3) (EvF TT 98 [.ptr (some (p0,0)),Dat.bnd 27 (.ptr (some (p0,0))),getE (elsOf (fld y3 4)) (IntKind.i64.wrap (n23+1))] g' (KQ Qf λv g'=>RetT v []∧L55_5 p0 [32,124,32] x21 n22 (IntKind.i64.wrap (n23+1)) y3 g' Qf)) (EvF TT 27 [.ptr (some (p0,0)),getE (elsOf (fld y3 4)) (IntKind.i64.wrap (n23+1))] g' (KQ Qf λv g'=>RetT v []∧L55_5 p0 [32,124,32] x21 n22 (IntKind.i64.wrap (n23+1)) y3 g' Qf))) (Br (intOf (fld (getE (elsOf (fld y3 4)) (IntKind.i64.wrap (n23+1))) 0)==5) (Br (intOf (fld (getE (elsOf (fld y3 4)) (IntKind.i64.wrap (n23+1))) 0)==5) (EvF TT 98 [.ptr (some (p0,0)),Dat.bnd 27 (.ptr (some (p0,0))),getE (elsOf (fld y3 4)) (IntKind.i64.wrap (n23+1))] g' (KQ Qf λv g'=>RetT v []∧L55_5 p0 [32,124,32] x21 n22 (IntKind.i64.wrap (n23+1)) y3 g' Qf)) (EvF TT 27 [.ptr (some (p0,0)),getE (elsOf (fld y3 4)) (IntKind.i64.wrap (n23+1))] g' (KQ Qf λv g'=>RetT v []∧L55_5 p0 [32,124,32] x21 n22 (IntKind.i64.wrap (n23+1)) y3 g' Qf))) (Br (intOf (fld (getE (elsOf (fld y3 4)) (IntKind.i64.wrap (n23+1))) 0)==6) (EvF TT 98 [.ptr (some (p0,0)),Dat.bnd 27 (.ptr (some (p0,0))),getE (elsOf (fld y3 4)) (IntKind.i64.wrap (n23+1))] g' (KQ Qf λv g'=>RetT v []∧L55_5 p0 [32,124,32] x21 n22 (IntKind.i64.wrap (n23+1)) y3 g' Qf)) (EvF TT 27 [.ptr (some (p0,0)),getE (elsOf (fld y3 4)) (IntKind.i64.wrap (n23+1))] g' (KQ Qf λv g'=>RetT v []∧L55_5 p0 [32,124,32] x21 n22 (IntKind.i64.wrap (n23+1)) y3 g' Qf)))))))) (∃x,HasTy TT 68 x∧GOk TT 68 g p0 0 x∧∃t v fn,x=.iface t v∧Meth TT t "athanor/show.put" fn∧EvF TT fn [v,.sl 1 [.str [32,101,110,100]]] g (KQ Qf λv g'=>RetT v []∧Qf (.val (.tuple [])) g'))):
 L55_5 p0 s4 x21 n22 n23 y3 g Qf:=sx_cut (rk:=rk) (loops:=lo55) (joins:=[]) (n:=100000) (by kernel_rfl) h
def lo56:List CutI:=[]
theorem w56{p0:Nat}{x1:Dat}{g:Glob}{Qf:OGP}(h1:HasTy TT 25 x1)
 (h:Br (intOf (fld x1 0)==1) (EvF TT 27 [.ptr (some (p0,0)),x1] g (KQ Qf λv g'=>RetT v []∧Qf (.val (.tuple [])) g')) (Br (intOf (fld x1 0)==2) (EvF TT 27 [.ptr (some (p0,0)),x1] g (KQ Qf λv g'=>RetT v []∧Qf (.val (.tuple [])) g')) (Br (intOf (fld x1 0)==8) (Br ((↑(elsOf (fld x1 4)).length:Int)==0) (EvF TT 27 [.ptr (some (p0,0)),x1] g (KQ Qf λv g'=>RetT v []∧Qf (.val (.tuple [])) g')) (EvF TT 98 [.ptr (some (p0,0)),Dat.bnd 27 (.ptr (some (p0,0))),x1] g (KQ Qf λv g'=>RetT v []∧Qf (.val (.tuple [])) g'))) (EvF TT 98 [.ptr (some (p0,0)),Dat.bnd 27 (.ptr (some (p0,0))),x1] g (KQ Qf λv g'=>RetT v []∧Qf (.val (.tuple [])) g'))))):
 EvF TT 56 [.ptr (some (p0,0)),x1] g Qf:=
 sx_fun (rk:=rk) (fn:=Tryz.f56) (loops:=lo56) (joins:=[]) (n:=100000) (args:=[(62,.ptr (some (p0,0))),(25,x1)]) rfl rfl rfl rfl ⟨tyPtr rfl,h1,trivial⟩ (by kernel_rfl) h
def lo70:List CutI:=[]
theorem w70{p0:Nat}{f1:FuncId}{r1:Dat}{x2:Dat}{g:Glob}{Qf:OGP}(h2:HasTy TT 28 x2)
 (h:∃x,HasTy TT 68 x∧GOk TT 68 g p0 0 x∧∃t v fn,x=.iface t v∧Meth TT t "athanor/show.put" fn∧EvF TT fn [v,.sl 1 [.str [40]]] g (KQ Qf λv g'=>RetT v []∧EvF TT f1 [r1,x2] g' (KQ Qf λv g'=>RetT v []∧∃x,HasTy TT 68 x∧GOk TT 68 g' p0 0 x∧∃t v fn,x=.iface t v∧Meth TT t "athanor/show.put" fn∧EvF TT fn [v,.sl 1 [.str [41]]] g' (KQ Qf λv g'=>RetT v []∧Qf (.val (.tuple [])) g')))):
 EvF TT 70 [.ptr (some (p0,0)),.bnd f1 r1,x2] g Qf:=
 sx_fun (rk:=rk) (fn:=Tryz.f70) (loops:=lo70) (joins:=[]) (n:=100000) (args:=[(62,.ptr (some (p0,0))),(78,.bnd f1 r1),(28,x2)]) rfl rfl rfl rfl ⟨tyPtr rfl,tyBnd rfl,h2,trivial⟩ (by kernel_rfl) h
def L71_2(p0:Nat)(f4:FuncId)(r4:Dat)(x9:Dat)(n10:Int)(n11:Int)(g:Glob)(Qf:OGP):Prop:=CutP TT Tryz.f71 [1,1,0] Qf (mkC TT 71 Tryz.f71 2 [(0,.v 62 (.ptr (some (p0,0)))),(4,.v 78 (.bnd f4 r4)),(9,.v 26 (x9)),(10,.v 3 (.int .i64 n10)),(11,.v 3 (.int .i64 n11))] [] g)
def lo71:List CutI:=[⟨2,[(0,.keep),(4,.keep),(9,.keep),(10,.keep),(11,.keep)],[]⟩]
theorem w71{p0:Nat}{x1:Dat}{g:Glob}{Qf:OGP}(h1:HasTy TT 26 x1)
 (h:L71_2 p0 33 (.ptr (some (p0,0))) x1 (↑(elsOf x1).length:Int) 0 g Qf):
 EvF TT 71 [.ptr (some (p0,0)),x1] g Qf:=
 sx_fun (rk:=rk) (fn:=Tryz.f71) (loops:=lo71) (joins:=[]) (n:=100000) (args:=[(62,.ptr (some (p0,0))),(26,x1)]) rfl rfl rfl rfl ⟨tyPtr rfl,h1,trivial⟩ (by kernel_rfl) h
theorem w71_2{p0:Nat}{f4:FuncId}{r4:Dat}{x9:Dat}{n10:Int}{n11:Int}{g:Glob}{Qf:OGP}
 (h:Br (decide (n11<n10)) (InB n11 (elsOf x9).length∧∃x,HasTy TT 68 x∧GOk TT 68 g p0 0 x∧∃t v fn,x=.iface t v∧Meth TT t "athanor/show.put" fn∧EvF TT fn [v,.sl 1 [.str [32]]] g (KQ Qf λv g'=>RetT v []∧Br (intOf (fld (getE (elsOf x9) n11) 0)==3) (EvF TT 70 [.ptr (some (p0,0)),Dat.bnd f4 r4,getE (elsOf x9) n11] g' (KQ Qf λv g'=>RetT v []∧L71_2 p0 f4 r4 x9 n10 (IntKind.i64.wrap (n11+1)) g' Qf)) (Br (intOf (fld (getE (elsOf x9) n11) 0)==4) (Br (decide (0<(↑(elsOf (fld (getE (elsOf x9) n11) 3)).length:Int))) (EvF TT 70 [.ptr (some (p0,0)),Dat.bnd f4 r4,getE (elsOf x9) n11] g' (KQ Qf λv g'=>RetT v []∧L71_2 p0 f4 r4 x9 n10 (IntKind.i64.wrap (n11+1)) g' Qf)) (EvF TT f4 [r4,getE (elsOf x9) n11] g' (KQ Qf λv g'=>RetT v []∧L71_2 p0 f4 r4 x9 n10 (IntKind.i64.wrap (n11+1)) g' Qf))) (EvF TT f4 [r4,getE (elsOf x9) n11] g' (KQ Qf λv g'=>RetT v []∧L71_2 p0 f4 r4 x9 n10 (IntKind.i64.wrap (n11+1)) g' Qf))))) (Qf (.val (.tuple [])) g)):
 L71_2 p0 f4 r4 x9 n10 n11 g Qf:=sx_cut (rk:=rk) (loops:=lo71) (joins:=[]) (n:=100000) (by kernel_rfl) h
def lo98:List CutI:=[]
theorem w98{p0:Nat}{f1:FuncId}{r1:Dat}{x2:Dat}{g:Glob}{Qf:OGP}(h2:HasTy TT 25 x2)
 (h:∃x,HasTy TT 68 x∧GOk TT 68 g p0 0 x∧∃t v fn,x=.iface t v∧Meth TT t "athanor/show.put" fn∧EvF TT fn [v,.sl 1 [.str [40]]] g (KQ Qf λv g'=>RetT v []∧EvF TT f1 [r1,x2] g' (KQ Qf λv g'=>RetT v []∧∃x,HasTy TT 68 x∧GOk TT 68 g' p0 0 x∧∃t v fn,x=.iface t v∧Meth TT t "athanor/show.put" fn∧EvF TT fn [v,.sl 1 [.str [41]]] g' (KQ Qf λv g'=>RetT v []∧Qf (.val (.tuple [])) g')))):
 EvF TT 98 [.ptr (some (p0,0)),.bnd f1 r1,x2] g Qf:=
 sx_fun (rk:=rk) (fn:=Tryz.f98) (loops:=lo98) (joins:=[]) (n:=100000) (args:=[(62,.ptr (some (p0,0))),(71,.bnd f1 r1),(25,x2)]) rfl rfl rfl rfl ⟨tyPtr rfl,tyBnd rfl,h2,trivial⟩ (by kernel_rfl) h
def L99_4(p0:Nat)(x17:Dat)(n18:Int)(n19:Int)(g:Glob)(Qf:OGP):Prop:=CutP TT Tryz.f99 [1,1,0,1,1,1,1,1,1,0] Qf (mkC TT 99 Tryz.f99 2 [(0,.v 62 (.ptr (some (p0,0)))),(17,.v 23 (x17)),(18,.v 3 (.int .i64 n18)),(19,.v 3 (.int .i64 n19))] [] g)
def lo99:List CutI:=[⟨4,[(0,.keep),(17,.keep),(18,.keep),(19,.keep)],[]⟩]
theorem w99{p0:Nat}{x1:Dat}{g:Glob}{Qf:OGP}(h1:HasTy TT 94 x1)
 (h:Br (intOf (fld x1 0)==1) (∃x,HasTy TT 68 x∧GOk TT 68 g p0 0 x∧∃t v fn,x=.iface t v∧Meth TT t "athanor/show.put" fn∧EvF TT fn [v,.sl 1 [.str [95]]] g (KQ Qf λv g'=>RetT v []∧Qf (.val (.tuple [])) g')) (Br (intOf (fld x1 0)==3) (EvF TT 52 [.ptr (some (p0,0)),.int .i64 (intOf (fld x1 2))] g (KQ Qf λv g'=>RetT v []∧Qf (.val (.tuple [])) g')) (∃x,HasTy TT 68 x∧GOk TT 68 g p0 0 x∧∃t v fn,x=.iface t v∧Meth TT t "athanor/show.put" fn∧EvF TT fn [v,.sl 1 [.str (strOf (fld x1 1))]] g (KQ Qf λv g'=>RetT v []∧L99_4 p0 (fld x1 3) (↑(elsOf (fld x1 3)).length:Int) 0 g' Qf)))):
 EvF TT 99 [.ptr (some (p0,0)),x1] g Qf:=
 sx_fun (rk:=rk) (fn:=Tryz.f99) (loops:=lo99) (joins:=[]) (n:=100000) (args:=[(62,.ptr (some (p0,0))),(94,x1)]) rfl rfl rfl rfl ⟨tyPtr rfl,h1,trivial⟩ (by kernel_rfl) h
theorem w99_4{p0:Nat}{x17:Dat}{n18:Int}{n19:Int}{g:Glob}{Qf:OGP}
 (h:Br (decide (n19<n18)) (InB n19 (elsOf x17).length∧∃x,HasTy TT 68 x∧GOk TT 68 g p0 0 x∧∃t v fn,x=.iface t v∧Meth TT t "athanor/show.put" fn∧EvF TT fn [v,.sl 1 [.str [32]]] g (KQ Qf λv g'=>RetT v []∧Br (decide (0<(↑(elsOf (fld (getE (elsOf x17) n19) 3)).length:Int))) (EvF TT 145 [.ptr (some (p0,0)),Dat.bnd 99 (.ptr (some (p0,0))),getE (elsOf x17) n19] g' (KQ Qf λv g'=>RetT v []∧L99_4 p0 x17 n18 (IntKind.i64.wrap (n19+1)) g' Qf)) (EvF TT 99 [.ptr (some (p0,0)),getE (elsOf x17) n19] g' (KQ Qf λv g'=>RetT v []∧L99_4 p0 x17 n18 (IntKind.i64.wrap (n19+1)) g' Qf)))) (Qf (.val (.tuple [])) g)):
 L99_4 p0 x17 n18 n19 g Qf:=sx_cut (rk:=rk) (loops:=lo99) (joins:=[]) (n:=100000) (by kernel_rfl) h
def lo145:List CutI:=[]
theorem w145{p0:Nat}{f1:FuncId}{r1:Dat}{x2:Dat}{g:Glob}{Qf:OGP}(h2:HasTy TT 94 x2)
 (h:∃x,HasTy TT 68 x∧GOk TT 68 g p0 0 x∧∃t v fn,x=.iface t v∧Meth TT t "athanor/show.put" fn∧EvF TT fn [v,.sl 1 [.str [40]]] g (KQ Qf λv g'=>RetT v []∧EvF TT f1 [r1,x2] g' (KQ Qf λv g'=>RetT v []∧∃x,HasTy TT 68 x∧GOk TT 68 g' p0 0 x∧∃t v fn,x=.iface t v∧Meth TT t "athanor/show.put" fn∧EvF TT fn [v,.sl 1 [.str [41]]] g' (KQ Qf λv g'=>RetT v []∧Qf (.val (.tuple [])) g')))):
 EvF TT 145 [.ptr (some (p0,0)),.bnd f1 r1,x2] g Qf:=
 sx_fun (rk:=rk) (fn:=Tryz.f145) (loops:=lo145) (joins:=[]) (n:=100000) (args:=[(62,.ptr (some (p0,0))),(104,.bnd f1 r1),(94,x2)]) rfl rfl rfl rfl ⟨tyPtr rfl,tyBnd rfl,h2,trivial⟩ (by kernel_rfl) h
def L226_1(p0:Nat)(x6:Dat)(n7:Int)(n8:Int)(g:Glob)(Qf:OGP):Prop:=CutP TT Tryz.f226 [1,0] Qf (mkC TT 226 Tryz.f226 2 [(0,.v 63 (.ptr (some (p0,0)))),(6,.v 47 (x6)),(7,.v 3 (.int .i64 n7)),(8,.v 3 (.int .i64 n8))] [] g)
def lo226:List CutI:=[⟨1,[(0,.keep),(6,.keep),(7,.keep),(8,.keep)],[]⟩]
theorem w226{p0:Nat}{x1:Dat}{g:Glob}{Qf:OGP}(h1:HasTy TT 47 x1)
 (h:L226_1 p0 x1 (↑(elsOf x1).length:Int) 0 g Qf):
 EvF TT 226 [.ptr (some (p0,0)),x1] g Qf:=
 sx_fun (rk:=rk) (fn:=Tryz.f226) (loops:=lo226) (joins:=[]) (n:=100000) (args:=[(63,.ptr (some (p0,0))),(47,x1)]) rfl rfl rfl rfl ⟨tyPtr rfl,h1,trivial⟩ (by kernel_rfl) h
theorem w226_1{p0:Nat}{x6:Dat}{n7:Int}{n8:Int}{g:Glob}{Qf:OGP}
 (h:Br (decide (n8<n7)) (InB n8 (elsOf x6).length∧∃x,HasTy TT 64 x∧GOk TT 64 g p0 0 x∧Fits ((elsOf x).length+(bytesUp (strOf (fld (getE (elsOf x6) n8) 0))).length) 1∧∃r g',gapp 1 x (bytesUp (strOf (fld (getE (elsOf x6) n8) 0))) g=some (r,g')∧GPut g' p0 0 1∧L226_1 p0 x6 n7 (IntKind.i64.wrap (n8+1)) (gput g' p0 0 r) Qf) (Qf (.val (.tuple [])) g)):
 L226_1 p0 x6 n7 n8 g Qf:=sx_cut (rk:=rk) (loops:=lo226) (joins:=[]) (n:=100000) (by kernel_rfl) h
def lo227:List CutI:=[]
theorem w227{p0:Nat}{g:Glob}{Qf:OGP}
 (h:∃x,HasTy TT 64 x∧GOk TT 64 g p0 0 x∧Qf (.val (.d (.str (bytesD (elsOf x))))) g):
 EvF TT 227 [.ptr (some (p0,0))] g Qf:=
 sx_fun (rk:=rk) (fn:=Tryz.f227) (loops:=lo227) (joins:=[]) (n:=100000) (args:=[(63,.ptr (some (p0,0)))]) rfl rfl rfl rfl ⟨tyPtr rfl,trivial⟩ (by kernel_rfl) h
end Go.Proofs.YtmlghadphdpbjaaGreatDoor.Pa
namespace Go.Proofs.YtmlghadphdpbjaaGreatDoor.Pa
open Go Go.Proofs.YtmlghadphdpbjaaGreatDoor.Am
def catD:List Dat→Str
 |[]=>[]
 |d::l=>strOf d++catD l
def strsD:List Dat→Bool
 |[]=>true
 |.str _::l=>strsD l
 |_=>false
theorem strsD_get:∀{ds:List Dat},strsD ds=true→∀(i:Nat) (h:i<ds.length),∃s,ds[i]=.str s
 |.str s::l,h,0,_=>⟨s,rfl⟩
 |.str s::l,h,i+1,hi=>strsD_get (ds:=l) h i (by simpa using hi)
theorem strsD_len:∀{ds:List Dat} {n:Nat},strsD ds=true→(catD ds).length≤n→∀d∈ds,∃s,d=.str s∧s.length≤n
 |.str s::l,n,h,hn,d,hd=>by
  simp only[catD,strOf,List.length_append] at hn
  rcases List.mem_cons.1 hd with rfl|hd
  ·exact⟨s,rfl,by omega⟩
  ·exact strsD_len (ds:=l) h (by omega) d hd
theorem strs_ty{ds:List Dat}{n:Nat}(hs:strsD ds=true)(hl:(catD ds).length≤n)(h40:n≤2^40)(hn:ds.length≤64):HasTy TT 47 (.sl 1 ds):=
 .sl _ _ _ _ undStrs szStr (fitOf' byStr hn) λd hd=>by
  obtain⟨s,rfl,h⟩:=strsD_len hs hl d hd
  exact ty_str (by omega)
where
 fitOf' {e:TypeId} {n:Nat} (he:TT.bytes e=some 16) (h:n≤64):SlFit TT e n:=⟨by omega,λb' hb'=>by
  rw[he] at hb'
  cases hb'
  omega⟩
theorem undBytes:TT.und 64=some (.slice 5):=by kernel_rfl
theorem sizeBytes:TT.size 64=some 1:=by kernel_rfl
theorem sizeByte:TT.size 5=some 1:=by kernel_rfl
theorem byByte:TT.bytes 5=some 1:=by kernel_rfl
theorem gokD{g:Glob}{i o n:Nat}{cs:List GVal}{x:Dat}{t:TypeId}{d:TypeDesc}(hu:TT.und t=some d)(hs:TT.size t=some n)(ha:isAggD d=false)(hb:g.boxes[i]?=some (.cells cs))(hc:cs[o]?=some (.d x)):GOk TT t g i o x:=by
 refine⟨.d x,?_,rfl,rfl⟩
 simp only[gload,hb,loadV,hu,hs,ha,Bool.false_eq_true,if_false,List.head?_map,List.head?_drop,hc]
 rfl
theorem bytes_ty{k:Nat}{b:Str}(hl:b.length≤2^40):HasTy TT 64 (.gsl k 1 (bytesUp b)):=
 .gsl _ _ _ _ _ undBytes sizeByte ⟨by rw[bytesUp_len];exact hl,λb' hb'=>by rw[byByte] at hb';cases hb';rw[bytesUp_len];omega⟩ λd hd=>by
  obtain⟨c,_,rfl⟩:=List.mem_map.1 hd
  exact tyInt (by kernel_rfl)
theorem PageIs.read{g:Glob}{q:Nat}{b:Str}(h:PageIs g q b)(hl:b.length≤2^40):∃B,g.boxes[q]?=some (.cells [.d B])∧HasTy TT 64 B∧GOk TT 64 g q 0 B∧elsOf B=bytesUp b:=by
 obtain⟨B,h1,h2⟩:=h
 refine⟨B,h1,?_,gokD undBytes sizeBytes rfl h1 rfl,?_⟩
 ·rcases h2 with ⟨rfl,rfl⟩|⟨k,rfl,_⟩
  ·exact .nil _ (by rw[undBytes];rfl)
  ·exact bytes_ty hl
 ·rcases h2 with ⟨rfl,rfl⟩|⟨k,rfl,_⟩<;>rfl
theorem bytesD_up:∀(b:Str),bytesD (bytesUp b)=b
 |[]=>rfl
 |c::l=>by
  show UInt8.ofNat (intOf (.int .u8 (c.toNat:Int))).toNat::bytesD (bytesUp l)=c::l
  rw[bytesD_up l]
  simp[intOf]
theorem fits1{n:Nat}(h:n≤2^40):Fits n 1:=⟨h,by omega⟩
section
variable{g:Glob}{q w:Nat}{b full:Str}{Qf:OGP}{ds:List Dat}
theorem pagePut_ok(hp:PageIs g q b)(hs:strsD ds=true)(hn:ds.length≤64)(hl:b.length+(catD ds).length≤2^40)
 (hQ:∀g',PageIs g' q (b++catD ds)→Oth q g g'→Qf (.val (.tuple [])) g'):EvF TT 226 [.ptr (some (q,0)),.sl 1 ds] g Qf:=by
 refine w226 (strs_ty hs (Nat.le_refl _) (by omega) hn) ?_
 show L226_1 q (.sl 1 ds) (ds.length:Int) 0 g Qf
 refine loopUp (len:=ds.length) (λi=>∀g1 b1,PageIs g1 q b1→Oth q g g1→b1++catD (ds.drop i)=b++catD ds→L226_1 q (.sl 1 ds) (ds.length:Int) (i:Int) g1 Qf) ?_ ?_ 0 (Nat.zero_le _) g b hp (.refl _ _) rfl
 ·intro g1 b1 h1 h2 h3
  refine w226_1 ?_
  rw[Br_ge]
  rw[List.drop_length,catD,List.append_nil] at h3
  exact hQ _ (h3▸h1) h2
 ·intro i hi ih g1 b1 h1 h2 h3
  refine w226_1 ?_
  rw[Br_lt hi]
  have hd:ds.drop i=ds[i]::ds.drop (i+1):=List.drop_eq_getElem_cons hi
  obtain⟨s,hsi⟩:=strsD_get hs i hi
  rw[hd,catD,hsi] at h3
  have hlen:=congrArg List.length h3
  simp only[List.length_append,strOf] at hlen
  have he:getE (elsOf (.sl 1 ds)) (i:Int)=.str s:=(getE_nat hi).trans hsi
  obtain⟨B,r,g2,p1,p2,p3,p4,p5,p6⟩:=page_put h1 s
  obtain⟨B',r1,r2,r3,r4⟩:=h1.read (by omega)
  obtain rfl:B=B':=by rw[p1] at r1;cases r1;rfl
  rw[he]
  refine⟨inB hi,B,r2,r3,?_,r,g2,p3,p4,?_⟩
  ·rw[r4]
   simp only[fld,strOf,bytesUp_len]
   exact fits1 (by omega)
  ·rw[wrap_nat (by omega)]
   exact ih _ _ p5 (h2.trans p6) (by rw[List.append_assoc];exact h3)
theorem pageText_ok(hp:PageIs g q b)(hl:b.length≤2^40)(hQ:Qf (.val (.d (.str b))) g):EvF TT 227 [.ptr (some (q,0))] g Qf:=by
 obtain⟨B,h1,h2,h3,h4⟩:=hp.read hl
 refine w227 ⟨B,h2,h3,?_⟩
 rw[h4,bytesD_up]
 exact hQ
def Wr(g:Glob)(w q:Nat)(b:Str):Prop:=g.boxes[w]?=some (.cells [.d (.iface 63 (.ptr (some (q,0))))])∧PageIs g q b∧w≠q
theorem undSheet:∃l,TT.und 68=some (.interface l):=by
 have h:isI (TT.und 68)=true:=by kernel_rfl
 unfold isI at h
 split at h
 ·exact⟨_,‹_›⟩
 ·cases h
theorem sizeSheet:TT.size 68=some 1:=by kernel_rfl
theorem Wr.sheet(h:Wr g w q b):HasTy TT 68 (.iface 63 (.ptr (some (q,0))))∧GOk TT 68 g w 0 (.iface 63 (.ptr (some (q,0)))):=by
 obtain⟨l,hu⟩:=undSheet
 exact⟨.iface _ _ _ (by rw[hu];rfl) (tyPtr (by kernel_rfl)),gokD hu sizeSheet rfl h.1 rfl⟩
theorem methPut:Meth TT 63 "athanor/show.put" 226:=by unfold Meth;kernel_rfl
theorem methText:Meth TT 63 "athanor/show.text" 227:=by unfold Meth;kernel_rfl
theorem put_ok{P:Dat→Glob→Prop}{K:Glob→Prop}(hw:Wr g w q b)(hs:strsD ds=true)(hn:ds.length≤64)(hl:b.length+(catD ds).length≤2^40)(hK:∀g',Wr g' w q (b++catD ds)→K g'):
 ∃x,HasTy TT 68 x∧GOk TT 68 g w 0 x∧∃t v fn,x=Dat.iface t v∧Meth TT t "athanor/show.put" fn∧EvF TT fn [v,Dat.sl 1 ds] g λout g'=>Outc (λx=>P x g') (λv=>RetT v []∧K g') out:=
 ⟨_,hw.sheet.1,hw.sheet.2,_,_,_,rfl,methPut,pagePut_ok hw.2.1 hs hn hl λg' h1 h2=>⟨trivial,hK g' ⟨h2.at hw.1 hw.2.2,h1,hw.2.2⟩⟩⟩
def cut:Str→List Dat:=λs=>bif Nat.blt 8192 s.length then[.str [],.int .i64 2] else[.str s,.int .i64 0]
theorem done_ok(hw:Wr g w q b)(hl:b.length≤2^40)(hQ:Qf (.val (.tuple ((cut b).map .d))) g):EvF TT 28 [.ptr (some (w,0))] g Qf:=by
 refine w28 ⟨_,hw.sheet.1,hw.sheet.2,_,_,_,rfl,methText,pageText_ok hw.2.1 hl ⟨b,(by omega:b.length≤1099511627776),rfl,Br_iff.2 ⟨λh=>?_,λh=>?_⟩⟩⟩
 ·rw[cut,show Nat.blt 8192 b.length=true by have:=of_decide_eq_true h;exact Nat.ble_eq_true_of_le (by omega)] at hQ
  exact hQ
 ·rw[cut,show Nat.blt 8192 b.length=false by have:=of_decide_eq_false h;exact Bool.eq_false_iff.2 λe=>by have:=Nat.le_of_ble_eq_true e;omega] at hQ
  exact hQ
theorem decS_dec(n:Nat):Lib.decDigits n=decS n:=by
 induction n using Nat.strongRecOn with
 |_ n ih=>
  unfold decS Lib.decDigits
  by_cases h:n<10
  ·rw[dif_pos h,if_pos h]
  ·rw[dif_neg h,if_neg h,ih (n/10) (by omega)]
theorem sheet_same{g':Glob}(h:Wr g w q b)(h':Wr g' w q b):GSame TT 68 w 0 g g':=by
 obtain⟨l,hu⟩:=undSheet
 have k:∀{g},Wr g w q b→gload TT 68 g w 0=some (.d (.iface 63 (.ptr (some (q,0))))):=λ{g} h=>by
  simp only[gload,h.1,loadV,hu,sizeSheet]
  rfl
 exact⟨_,_,k h,k h',Dat.beq_refl _⟩
theorem number_ok'{n:Int}(hn:inI n=true)(hw:Wr g w q b)(hl:b.length+(tInt n).length≤2^40)(hQ:∀g',Wr g' w q (b++tInt n)→Qf (.val (.tuple [])) g'):EvF TT 52 [.ptr (some (w,0)),.int .i64 n] g Qf:=by
 unfold inI at hn
 rw[Bool.and_eq_true] at hn
 have n1:=of_decide_eq_true hn.1
 have n2:=of_decide_eq_true hn.2
 refine w52 (Br_iff.2 ⟨λh=>?_,λh=>?_⟩)
 ·have h:=of_decide_eq_true h
  have e:tInt n=[126]++decS (-n).toNat:=by unfold tInt;rw[if_pos h]
  rw[e] at hl hQ
  simp only[List.length_append,List.length_cons,List.length_nil] at hl
  have e2:IntKind.i64.wrap (0-n)=-n:=by rw[wrap_id (by omega) (by omega)];omega
  have e3:Lib.itoa (-n)=decS (-n).toNat:=by unfold Lib.itoa;rw[if_neg (by omega),decS_dec]
  refine put_ok hw rfl (by simp) (by simp[catD,strOf];omega) λg1 h1=>?_
  refine⟨_,h1.sheet.1,h1.sheet.2,?_⟩
  rw[e2]
  refine itoa_ok (by omega) (by omega) ?_
  rw[e3]
  refine⟨decS (-n).toNat,(by omega:(decS (-n).toNat).length≤1099511627776),rfl,sheet_same h1 h1,_,_,rfl,_,_,_,rfl,methPut,?_⟩
  refine pagePut_ok h1.2.1 rfl (by simp) (by simp[catD,strOf];omega) λg' k1 k2=>⟨trivial,hQ g' ⟨k2.at h1.1 h1.2.2,?_,h1.2.2⟩⟩
  simpa[catD,strOf] using k1
 ·have h:=of_decide_eq_false h
  have e:tInt n=decS n.toNat:=by unfold tInt;rw[if_neg h]
  rw[e] at hl hQ
  have e3:Lib.itoa n=decS n.toNat:=by unfold Lib.itoa;rw[if_neg (by omega),decS_dec]
  refine⟨_,hw.sheet.1,hw.sheet.2,?_⟩
  refine itoa_ok (by omega) (by omega) ?_
  rw[e3]
  refine⟨decS n.toNat,(by omega:(decS n.toNat).length≤1099511627776),rfl,sheet_same hw hw,_,_,rfl,_,_,_,rfl,methPut,?_⟩
  refine pagePut_ok hw.2.1 rfl (by simp) (by simp[catD,strOf];omega) λg' k1 k2=>⟨trivial,hQ g' ⟨k2.at hw.1 hw.2.2,?_,hw.2.2⟩⟩
  simpa[catD,strOf] using k1
end
end Go.Proofs.YtmlghadphdpbjaaGreatDoor.Pa
