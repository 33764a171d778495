/- What functions of the program do, printed by wip/tools/sx/sx.py. The document's comparisons of trees. What functions of the program do, printed by wip/tools/sx/sx.py. The document's comparison of programs; the program's own. The program's own comparison of programs. What functions of the program do, printed by wip/tools/sx/sx.py. The document's copies; what is too large. Nothing of this layer is asked in this seat. The law ParseSame told: it answers true. -/
import Derived.Test.YtiheejdkkjfenaaGreatDoorRC
set_option linter.all false
set_option autoImplicit false
set_option maxRecDepth 100000
namespace Go.Proofs.YtiheejdkkjfenaaGreatDoor.Pa
open Go Go.Proofs.YtiheejdkkjfenaaGreatDoor.Am
end Go.Proofs.YtiheejdkkjfenaaGreatDoor.Pa
namespace Go.Proofs.YtiheejdkkjfenaaGreatDoor.Pa
open Go Go.Proofs.YtiheejdkkjfenaaGreatDoor.Am
end Go.Proofs.YtiheejdkkjfenaaGreatDoor.Pa
namespace Go.Proofs.YtiheejdkkjfenaaGreatDoor.Pa
open Go Go.Proofs.YtiheejdkkjfenaaGreatDoor.Am
end Go.Proofs.YtiheejdkkjfenaaGreatDoor.Pa
namespace Go.Proofs.YtiheejdkkjfenaaGreatDoor.Pa
open Go Go.Proofs.YtiheejdkkjfenaaGreatDoor.Am
theorem len_le{x:Dat}{t u:TypeId}(hu:TT.und t=some (.slice u))(hx:HasTy TT t x):(elsOf x).length≤2^40:=(hx.els hu).1.1
end Go.Proofs.YtiheejdkkjfenaaGreatDoor.Pa
namespace Go.Proofs.YtiheejdkkjfenaaGreatDoor.Pa
open Go Go.Proofs.YtiheejdkkjfenaaGreatDoor.Am
end Go.Proofs.YtiheejdkkjfenaaGreatDoor.Pa
namespace Go.Proofs.YtiheejdkkjfenaaGreatDoor.Pa
open Go Go.Proofs.YtiheejdkkjfenaaGreatDoor.Am
def L45_3(x0:Dat)(l3:List Dat)(n4:Int)(g:Glob)(Qf:OGP):Prop:=CutP TT Tryz.f45 [1,1,0,1,0] Qf (mkC TT 45 Tryz.f45 1 [(0,.v 59 (x0)),(3,.acc [(23,0)] 59 4 l3),(4,.v 3 (.int .i64 n4))] [] g)
def lo45:List CutI:=[⟨3,[(0,.keep),(3,.acc [23]),(4,.keep)],[]⟩]
theorem w45{x0:Dat}{g:Glob}{Qf:OGP}(h0:HasTy TT 59 x0)
 (h:L45_3 x0 [] 0 g Qf):
 EvF TT 45 [x0] g Qf:=
 sx_fun (rk:=rk) (fn:=Tryz.f45) (loops:=lo45) (joins:=[]) (n:=100000) (args:=[(59,x0)]) rfl rfl rfl rfl ⟨h0,trivial⟩ (by kernel_rfl) h
theorem w45_3{x0:Dat}{l3:List Dat}{n4:Int}{g:Glob}{Qf:OGP}
 (h:Br (decide (n4<(↑(elsOf x0).length:Int))) (InB n4 (elsOf x0).length∧EvF TT 45 [fld (getE (elsOf x0) n4) 3] g (KQ Qf λv g'=>∃x,HasTy TT 59 x∧RetV v x∧Fits (l3.length+[Dat.agg [.int .i64 (intOf (fld (getE (elsOf x0) n4) 0)),.str (strOf (fld (getE (elsOf x0) n4) 1)),.int .i64 (intOf (fld (getE (elsOf x0) n4) 2)),x]].length) 56∧L45_3 x0 (l3++[Dat.agg [.int .i64 (intOf (fld (getE (elsOf x0) n4) 0)),.str (strOf (fld (getE (elsOf x0) n4) 1)),.int .i64 (intOf (fld (getE (elsOf x0) n4) 2)),x]]) (IntKind.i64.wrap (n4+1)) g' Qf)) (Qf (.val (retOf 4 l3)) g)):
 L45_3 x0 l3 n4 g Qf:=sx_cut (rk:=rk) (loops:=lo45) (joins:=[]) (n:=100000) (by kernel_rfl) h
def L18_3(x0:Dat)(l3:List Dat)(n4:Int)(g:Glob)(Qf:OGP):Prop:=CutP TT Tryz.f18 [1,1,0,1,0] Qf (mkC TT 18 Tryz.f18 1 [(0,.v 24 (x0)),(3,.acc [(23,0)] 24 5 l3),(4,.v 3 (.int .i64 n4))] [] g)
def lo18:List CutI:=[⟨3,[(0,.keep),(3,.acc [23]),(4,.keep)],[]⟩]
theorem w18{x0:Dat}{g:Glob}{Qf:OGP}(h0:HasTy TT 24 x0)
 (h:L18_3 x0 [] 0 g Qf):
 EvF TT 18 [x0] g Qf:=
 sx_fun (rk:=rk) (fn:=Tryz.f18) (loops:=lo18) (joins:=[]) (n:=100000) (args:=[(24,x0)]) rfl rfl rfl rfl ⟨h0,trivial⟩ (by kernel_rfl) h
theorem w18_3{x0:Dat}{l3:List Dat}{n4:Int}{g:Glob}{Qf:OGP}
 (h:Br (decide (n4<(↑(elsOf x0).length:Int))) (InB n4 (elsOf x0).length∧EvF TT 18 [fld (getE (elsOf x0) n4) 3] g (KQ Qf λv g'=>∃x,HasTy TT 24 x∧RetV v x∧Fits (l3.length+[Dat.agg [.int .i64 (intOf (fld (getE (elsOf x0) n4) 0)),.str (strOf (fld (getE (elsOf x0) n4) 1)),.int .i64 (intOf (fld (getE (elsOf x0) n4) 2)),x,.int .i64 (intOf (fld (getE (elsOf x0) n4) 4))]].length) 64∧L18_3 x0 (l3++[Dat.agg [.int .i64 (intOf (fld (getE (elsOf x0) n4) 0)),.str (strOf (fld (getE (elsOf x0) n4) 1)),.int .i64 (intOf (fld (getE (elsOf x0) n4) 2)),x,.int .i64 (intOf (fld (getE (elsOf x0) n4) 4))]]) (IntKind.i64.wrap (n4+1)) g' Qf)) (Qf (.val (retOf 5 l3)) g)):
 L18_3 x0 l3 n4 g Qf:=sx_cut (rk:=rk) (loops:=lo18) (joins:=[]) (n:=100000) (by kernel_rfl) h
def L17_3(x0:Dat)(l3:List Dat)(n4:Int)(g:Glob)(Qf:OGP):Prop:=CutP TT Tryz.f17 [1,1,0,1,0] Qf (mkC TT 17 Tryz.f17 1 [(0,.v 22 (x0)),(3,.acc [(52,0)] 22 4 l3),(4,.v 3 (.int .i64 n4))] [] g)
def L17_9(x0:Dat)(l3:List Dat)(n4:Int)(l6:List Dat)(n7:Int)(y5:Dat)(g:Glob)(Qf:OGP):Prop:=CutP TT Tryz.f17 [1,1,0,1,0,0,1,0,0,1,1,1,0,1,0] Qf (mkC TT 17 Tryz.f17 1 [(0,.v 22 (x0)),(3,.acc [(52,0)] 22 4 l3),(4,.v 3 (.int .i64 n4)),(5,.loc 5 0 0),(6,.acc [(46,0)] 81 2 l6),(7,.v 3 (.int .i64 n7))] [(5,.whole 84 y5)] g)
def lo17:List CutI:=[⟨3,[(0,.keep),(3,.acc [52]),(4,.keep)],[]⟩,⟨9,[(0,.keep),(3,.acc [52]),(4,.keep),(5,.keep),(6,.acc [46]),(7,.keep)],[(5,.whole 84)]⟩]
theorem w17{x0:Dat}{g:Glob}{Qf:OGP}(h0:HasTy TT 22 x0)
 (h:L17_3 x0 [] 0 g Qf):
 EvF TT 17 [x0] g Qf:=
 sx_fun (rk:=rk) (fn:=Tryz.f17) (loops:=lo17) (joins:=[]) (n:=100000) (args:=[(22,x0)]) rfl rfl rfl rfl ⟨h0,trivial⟩ (by kernel_rfl) h
theorem w17_3{x0:Dat}{l3:List Dat}{n4:Int}{g:Glob}{Qf:OGP}
 (h:Br (decide (n4<(↑(elsOf x0).length:Int))) (InB n4 (elsOf x0).length∧Fits (0+(elsOf (fld (getE (elsOf x0) n4) 1)).length) 16∧L17_9 x0 l3 n4 [] 0 (.agg [.str (strOf (fld (getE (elsOf x0) n4) 0)),.sl 1 ([]++elsOf (fld (getE (elsOf x0) n4) 1)),fld (getE (elsOf x0) n4) 2,.int .i64 (intOf (fld (getE (elsOf x0) n4) 3))]) g Qf) (Qf (.val (retOf 4 l3)) g)):
 L17_3 x0 l3 n4 g Qf:=sx_cut (rk:=rk) (loops:=lo17) (joins:=[]) (n:=100000) (by kernel_rfl) h
theorem w17_9{x0:Dat}{l3:List Dat}{n4:Int}{l6:List Dat}{n7:Int}{y5:Dat}{g:Glob}{Qf:OGP}
 (h:Br (decide (n7<(↑(elsOf (fld y5 2)).length:Int))) (InB n7 (elsOf (fld y5 2)).length∧InB n7 (elsOf (fld y5 2)).length∧EvF TT 45 [fld (getE (elsOf (fld y5 2)) n7) 1] g (KQ Qf λv g'=>∃x,HasTy TT 59 x∧RetV v x∧Fits (l6.length+[Dat.agg [.str (strOf (fld (getE (elsOf (fld y5 2)) n7) 0)),x]].length) 40∧L17_9 x0 l3 n4 (l6++[Dat.agg [.str (strOf (fld (getE (elsOf (fld y5 2)) n7) 0)),x]]) (IntKind.i64.wrap (n7+1)) y5 g' Qf)) (Fits (l3.length+[Dat.agg [.str (strOf (fld y5 0)),fld y5 1,slOf 2 l6,.int .i64 (intOf (fld y5 3))]].length) 72∧L17_3 x0 (l3++[Dat.agg [.str (strOf (fld y5 0)),fld y5 1,slOf 2 l6,.int .i64 (intOf (fld y5 3))]]) (IntKind.i64.wrap (n4+1)) g Qf)):
 L17_9 x0 l3 n4 l6 n7 y5 g Qf:=sx_cut (rk:=rk) (loops:=lo17) (joins:=[]) (n:=100000) (by kernel_rfl) h
def L51_5(n1:Int)(n2:Int)(n7:Int)(y3:Dat)(g:Glob)(Qf:OGP):Prop:=CutP TT Tryz.f51 [1,1,1,0,1,0] Qf (mkC TT 51 Tryz.f51 3 [(1,.v 3 (.int .i64 n1)),(2,.v 3 (.int .i64 n2)),(3,.loc 3 0 0),(7,.v 3 (.int .i64 n7))] [(3,.whole 61 y3)] g)
def lo51:List CutI:=[⟨5,[(1,.keep),(2,.keep),(3,.keep),(7,.keep)],[(3,.whole 61)]⟩]
theorem w51{x0:Dat}{n1:Int}{n2:Int}{g:Glob}{Qf:OGP}(h0:HasTy TT 61 x0)
 (h:NeZ 10∧Br (decide (20000<IntKind.i64.wrap (n2+IntKind.i64.wrap (1+IntKind.i64.wrap ((↑(elsOf (fld x0 3)).length:Int).tdiv 10))))) (Qf (.val (.d (.int .i64 (-1)))) g) (Br (decide (600<n1)) (Qf (.val (.d (.int .i64 (-1)))) g) (L51_5 n1 (IntKind.i64.wrap (n2+IntKind.i64.wrap (1+IntKind.i64.wrap ((↑(elsOf (fld x0 3)).length:Int).tdiv 10)))) 0 x0 g Qf))):
 EvF TT 51 [x0,.int .i64 n1,.int .i64 n2] g Qf:=
 sx_fun (rk:=rk) (fn:=Tryz.f51) (loops:=lo51) (joins:=[]) (n:=100000) (args:=[(61,x0),(3,.int .i64 n1),(3,.int .i64 n2)]) rfl rfl rfl rfl ⟨h0,tyInt rfl,tyInt rfl,trivial⟩ (by kernel_rfl) h
theorem w51_5{n1:Int}{n2:Int}{n7:Int}{y3:Dat}{g:Glob}{Qf:OGP}
 (h:Br (decide (n7<(↑(elsOf (fld y3 3)).length:Int))) (Br (decide (0≤n2)) (InB n7 (elsOf (fld y3 3)).length∧EvF TT 51 [getE (elsOf (fld y3 3)) n7,.int .i64 (IntKind.i64.wrap (n1+1)),.int .i64 n2] g (KQ Qf λv g'=>∃n,v=.d (.int .i64 n)∧L51_5 n1 n (IntKind.i64.wrap (n7+1)) y3 g' Qf)) (Qf (.val (.d (.int .i64 n2))) g)) (Qf (.val (.d (.int .i64 n2))) g)):
 L51_5 n1 n2 n7 y3 g Qf:=sx_cut (rk:=rk) (loops:=lo51) (joins:=[]) (n:=100000) (by kernel_rfl) h
def L71_5(n1:Int)(n2:Int)(n7:Int)(y3:Dat)(g:Glob)(Qf:OGP):Prop:=CutP TT Tryz.f71 [1,1,1,0,1,0] Qf (mkC TT 71 Tryz.f71 3 [(1,.v 3 (.int .i64 n1)),(2,.v 3 (.int .i64 n2)),(3,.loc 3 0 0),(7,.v 3 (.int .i64 n7))] [(3,.whole 52 y3)] g)
def lo71:List CutI:=[⟨5,[(1,.keep),(2,.keep),(3,.keep),(7,.keep)],[(3,.whole 52)]⟩]
theorem w71{x0:Dat}{n1:Int}{n2:Int}{g:Glob}{Qf:OGP}(h0:HasTy TT 52 x0)
 (h:NeZ 10∧Br (decide (20000<IntKind.i64.wrap (n2+IntKind.i64.wrap (1+IntKind.i64.wrap ((↑(elsOf (fld x0 3)).length:Int).tdiv 10))))) (Qf (.val (.d (.int .i64 (-1)))) g) (Br (decide (600<n1)) (Qf (.val (.d (.int .i64 (-1)))) g) (L71_5 n1 (IntKind.i64.wrap (n2+IntKind.i64.wrap (1+IntKind.i64.wrap ((↑(elsOf (fld x0 3)).length:Int).tdiv 10)))) 0 x0 g Qf))):
 EvF TT 71 [x0,.int .i64 n1,.int .i64 n2] g Qf:=
 sx_fun (rk:=rk) (fn:=Tryz.f71) (loops:=lo71) (joins:=[]) (n:=100000) (args:=[(52,x0),(3,.int .i64 n1),(3,.int .i64 n2)]) rfl rfl rfl rfl ⟨h0,tyInt rfl,tyInt rfl,trivial⟩ (by kernel_rfl) h
theorem w71_5{n1:Int}{n2:Int}{n7:Int}{y3:Dat}{g:Glob}{Qf:OGP}
 (h:Br (decide (n7<(↑(elsOf (fld y3 3)).length:Int))) (Br (decide (0≤n2)) (InB n7 (elsOf (fld y3 3)).length∧EvF TT 71 [getE (elsOf (fld y3 3)) n7,.int .i64 (IntKind.i64.wrap (n1+1)),.int .i64 n2] g (KQ Qf λv g'=>∃n,v=.d (.int .i64 n)∧L71_5 n1 n (IntKind.i64.wrap (n7+1)) y3 g' Qf)) (Qf (.val (.d (.int .i64 n2))) g)) (Qf (.val (.d (.int .i64 n2))) g)):
 L71_5 n1 n2 n7 y3 g Qf:=sx_cut (rk:=rk) (loops:=lo71) (joins:=[]) (n:=100000) (by kernel_rfl) h
def L26_5(x0:Dat)(n3:Int)(n4:Int)(g:Glob)(Qf:OGP):Prop:=CutP TT Tryz.f26 [1,1,1,0,1,0] Qf (mkC TT 26 Tryz.f26 1 [(0,.v 22 (x0)),(3,.v 3 (.int .i64 n3)),(4,.v 3 (.int .i64 n4))] [] g)
def L26_10(x0:Dat)(n3:Int)(n4:Int)(n5:Int)(g:Glob)(Qf:OGP):Prop:=CutP TT Tryz.f26 [1,1,1,0,1,0,0,1,0,0,1,1,0] Qf (mkC TT 26 Tryz.f26 1 [(0,.v 22 (x0)),(3,.v 3 (.int .i64 n3)),(4,.v 3 (.int .i64 n4)),(5,.v 3 (.int .i64 n5))] [] g)
def L26_15(x0:Dat)(n3:Int)(n4:Int)(n5:Int)(n6:Int)(g:Glob)(Qf:OGP):Prop:=CutP TT Tryz.f26 [1,1,1,0,1,0,0,1,0,0,1,1,0,0,1,0,0,1,0,1,0] Qf (mkC TT 26 Tryz.f26 1 [(0,.v 22 (x0)),(3,.v 3 (.int .i64 n3)),(4,.v 3 (.int .i64 n4)),(5,.v 3 (.int .i64 n5)),(6,.v 3 (.int .i64 n6))] [] g)
def lo26:List CutI:=[⟨5,[(0,.keep),(3,.keep),(4,.keep)],[]⟩,⟨10,[(0,.keep),(3,.keep),(4,.keep),(5,.keep)],[]⟩,⟨15,[(0,.keep),(3,.keep),(4,.keep),(5,.keep),(6,.keep)],[]⟩]
theorem w26{x0:Dat}{g:Glob}{Qf:OGP}(h0:HasTy TT 22 x0)
 (h:Br (decide (200<(↑(elsOf x0).length:Int))) (Qf (.val (.d (.bool true))) g) (L26_5 x0 0 0 g Qf)):
 EvF TT 26 [x0] g Qf:=
 sx_fun (rk:=rk) (fn:=Tryz.f26) (loops:=lo26) (joins:=[]) (n:=100000) (args:=[(22,x0)]) rfl rfl rfl rfl ⟨h0,trivial⟩ (by kernel_rfl) h
theorem w26_5{x0:Dat}{n3:Int}{n4:Int}{g:Glob}{Qf:OGP}
 (h:Br (decide (n4<(↑(elsOf x0).length:Int))) (InB n4 (elsOf x0).length∧Br (decide (200<(↑(elsOf (fld (getE (elsOf x0) n4) 2)).length:Int))) (Qf (.val (.d (.bool true))) g) (InB n4 (elsOf x0).length∧Br (decide (200<(↑(elsOf (fld (getE (elsOf x0) n4) 1)).length:Int))) (Qf (.val (.d (.bool true))) g) (L26_10 x0 n3 n4 0 g Qf))) (Qf (.val (.d (.bool false))) g)):
 L26_5 x0 n3 n4 g Qf:=sx_cut (rk:=rk) (loops:=lo26) (joins:=[]) (n:=100000) (by kernel_rfl) h
theorem w26_10{x0:Dat}{n3:Int}{n4:Int}{n5:Int}{g:Glob}{Qf:OGP}
 (h:InB n4 (elsOf x0).length∧Br (decide (n5<(↑(elsOf (fld (getE (elsOf x0) n4) 2)).length:Int))) (InB n4 (elsOf x0).length∧InB n5 (elsOf (fld (getE (elsOf x0) n4) 2)).length∧Br (decide (200<(↑(elsOf (fld (getE (elsOf (fld (getE (elsOf x0) n4) 2)) n5) 1)).length:Int))) (Qf (.val (.d (.bool true))) g) (L26_15 x0 n3 n4 n5 0 g Qf)) (L26_5 x0 n3 (IntKind.i64.wrap (n4+1)) g Qf)):
 L26_10 x0 n3 n4 n5 g Qf:=sx_cut (rk:=rk) (loops:=lo26) (joins:=[]) (n:=100000) (by kernel_rfl) h
theorem w26_15{x0:Dat}{n3:Int}{n4:Int}{n5:Int}{n6:Int}{g:Glob}{Qf:OGP}
 (h:InB n4 (elsOf x0).length∧InB n5 (elsOf (fld (getE (elsOf x0) n4) 2)).length∧Br (decide (n6<(↑(elsOf (fld (getE (elsOf (fld (getE (elsOf x0) n4) 2)) n5) 1)).length:Int))) (Br (decide (0≤n3)) (InB n4 (elsOf x0).length∧InB n5 (elsOf (fld (getE (elsOf x0) n4) 2)).length∧InB n6 (elsOf (fld (getE (elsOf (fld (getE (elsOf x0) n4) 2)) n5) 1)).length∧EvF TT 51 [getE (elsOf (fld (getE (elsOf (fld (getE (elsOf x0) n4) 2)) n5) 1)) n6,.int .i64 0,.int .i64 n3] g (KQ Qf λv g'=>∃n,v=.d (.int .i64 n)∧L26_15 x0 n n4 n5 (IntKind.i64.wrap (n6+1)) g' Qf)) (Br (decide (n3<0)) (Qf (.val (.d (.bool true))) g) (L26_10 x0 n3 n4 (IntKind.i64.wrap (n5+1)) g Qf))) (Br (decide (n3<0)) (Qf (.val (.d (.bool true))) g) (L26_10 x0 n3 n4 (IntKind.i64.wrap (n5+1)) g Qf))):
 L26_15 x0 n3 n4 n5 n6 g Qf:=sx_cut (rk:=rk) (loops:=lo26) (joins:=[]) (n:=100000) (by kernel_rfl) h
end Go.Proofs.YtiheejdkkjfenaaGreatDoor.Pa
namespace Go.Proofs.YtiheejdkkjfenaaGreatDoor.Pa
open Go Go.Proofs.YtiheejdkkjfenaaGreatDoor.Am
theorem retOf_ret(m:Nat)(l:List Dat):RetV (retOf m l) (slOf m l):=by cases l<;>rfl
theorem byType:TT.bytes 61=some 56:=by kernel_rfl
theorem byPat:TT.bytes 52=some 64:=by kernel_rfl
theorem byCon:TT.bytes 80=some 40:=by kernel_rfl
theorem byDecl:TT.bytes 84=some 72:=by kernel_rfl
theorem byStr:TT.bytes 9=some 16:=by kernel_rfl
theorem szType:TT.size 61=some 4:=by kernel_rfl
theorem szPat:TT.size 52=some 5:=by kernel_rfl
theorem szCon:TT.size 80=some 2:=by kernel_rfl
theorem szDecl:TT.size 84=some 4:=by kernel_rfl
theorem szStr:TT.size 9=some 1:=by kernel_rfl
theorem take_snoc{α β:Type}{f:α→β}{xs:List α}{ys:List α}{i:Nat}{y:α}(hi:i<xs.length)(h:ys.map f=(xs.take i).map f)(hy:f y=f xs[i]):(ys++[y]).map f=(xs.take (i+1)).map f:=by
 rw[List.map_append,h,List.take_succ_eq_append_getElem hi,List.map_append,List.map_singleton,List.map_singleton,hy]
theorem copyTypes_ok:∀(k:Nat) (x:Dat) (g:Glob),SizeOf.sizeOf x<k→HasTy TT 59 x→∀(Qf:OGP),(∀l:List Dat,(∀y∈l,HasTy TT 61 y)→l.length=(elsOf x).length→l.map absTy=(elsOf x).map absTy→Qf (.val (retOf 4 l)) g)→EvF TT 45 [x] g Qf
 |0,x,g,hk,_=>by omega
 |k+1,x,g,hk,hx=>by
  intro Qf hQ
  have ex:=hx.els undTypes
  have exl:=ex.1.1
  refine w45 hx ?_
  refine loopUp (len:=(elsOf x).length) (λi=>∀l:List Dat,l.length=i→(∀y∈l,HasTy TT 61 y)→l.map absTy=((elsOf x).take i).map absTy→L45_3 x l (i:Int) g Qf) ?_ ?_ 0 (Nat.zero_le _) [] rfl (λy h=>by cases h) rfl
  ·intro l h1 h2 h3
   refine w45_3 ?_
   rw[Br_ge]
   rw[List.take_length] at h3
   exact hQ l h2 h1 h3
  ·intro i hi ih l h1 h2 h3
   refine w45_3 ?_
   rw[Br_lt hi,getE_nat hi]
   have hsz:=sizeOf_el hi
   obtain⟨k1,s1,n1,a1,e1,hs1,t1⟩:=type_ty (ex.2 _ (List.getElem_mem hi))
   have hab:absTy (elsOf x)[i]=.mk k1 s1 n1 (absTyA a1):=by rw[e1];rfl
   rw[e1] at hsz⊢
   have hc:=sizeOf_cell (cs:=[.int .i64 k1,.str s1,.int .i64 n1,a1]) (c:=a1) (by simp)
   refine⟨inB hi,copyTypes_ok k a1 g (by omega) t1 _ λl' hl' hn' ha'=>?_⟩
   have ta:HasTy TT 59 (slOf 4 l'):=slOf_ty undTypes szType (by rw[hn'];exact(t1.els undTypes).1) hl'
   refine⟨slOf 4 l',ta,retOf_ret _ _,(ex.1.le (by simp;omega)).fits byType,?_⟩
   rw[wrap_nat (by omega)]
   refine ih _ (by simp[h1]) (λy hy=>?_) (take_snoc hi h3 ?_)
   ·rcases List.mem_append.1 hy with hy|hy
    ·exact h2 y hy
    ·simp only[List.mem_singleton] at hy;subst hy;exact ty_type hs1 ta
   ·rw[hab]
    show Ty.mk k1 s1 n1 (absTyA (slOf 4 l'))=_
    rw[absTyA_map,slOf_els,ha',←absTyA_map]
theorem copyPats_ok:∀(k:Nat) (x:Dat) (g:Glob),SizeOf.sizeOf x<k→HasTy TT 24 x→∀(Qf:OGP),(∀l:List Dat,(∀y∈l,HasTy TT 52 y)→l.length=(elsOf x).length→l.map absPt=(elsOf x).map absPt→Qf (.val (retOf 5 l)) g)→EvF TT 18 [x] g Qf
 |0,x,g,hk,_=>by omega
 |k+1,x,g,hk,hx=>by
  intro Qf hQ
  have ex:=hx.els undPats
  have exl:=ex.1.1
  refine w18 hx ?_
  refine loopUp (len:=(elsOf x).length) (λi=>∀l:List Dat,l.length=i→(∀y∈l,HasTy TT 52 y)→l.map absPt=((elsOf x).take i).map absPt→L18_3 x l (i:Int) g Qf) ?_ ?_ 0 (Nat.zero_le _) [] rfl (λy h=>by cases h) rfl
  ·intro l h1 h2 h3
   refine w18_3 ?_
   rw[Br_ge]
   rw[List.take_length] at h3
   exact hQ l h2 h1 h3
  ·intro i hi ih l h1 h2 h3
   refine w18_3 ?_
   rw[Br_lt hi,getE_nat hi]
   have hsz:=sizeOf_el hi
   obtain⟨k1,s1,n1,a1,p1,e1,hs1,t1⟩:=pat_ty (ex.2 _ (List.getElem_mem hi))
   have hab:absPt (elsOf x)[i]=.mk k1 s1 n1 (absPtA a1) p1:=by rw[e1];rfl
   rw[e1] at hsz⊢
   have hc:=sizeOf_cell (cs:=[.int .i64 k1,.str s1,.int .i64 n1,a1,.int .i64 p1]) (c:=a1) (by simp)
   refine⟨inB hi,copyPats_ok k a1 g (by omega) t1 _ λl' hl' hn' ha'=>?_⟩
   have ta:HasTy TT 24 (slOf 5 l'):=slOf_ty undPats szPat (by rw[hn'];exact(t1.els undPats).1) hl'
   refine⟨slOf 5 l',ta,retOf_ret _ _,(ex.1.le (by simp;omega)).fits byPat,?_⟩
   rw[wrap_nat (by omega)]
   refine ih _ (by simp[h1]) (λy hy=>?_) (take_snoc hi h3 ?_)
   ·rcases List.mem_append.1 hy with hy|hy
    ·exact h2 y hy
    ·simp only[List.mem_singleton] at hy;subst hy;exact ty_pat hs1 ta
   ·rw[hab]
    show Pt.mk k1 s1 n1 (absPtA (slOf 5 l')) p1=_
    rw[absPtA_map,slOf_els,ha',←absPtA_map]
theorem copyDecls_ok(x:Dat)(g:Glob)(hx:HasTy TT 22 x)(Qf:OGP)(hQ:∀l:List Dat,(∀y∈l,HasTy TT 84 y)→l.length=(elsOf x).length→l.map absDc=(elsOf x).map absDc→Qf (.val (retOf 4 l)) g):EvF TT 17 [x] g Qf:=by
 have ex:=hx.els undDecls
 have exl:=ex.1.1
 refine w17 hx ?_
 refine loopUp (len:=(elsOf x).length) (λi=>∀l:List Dat,l.length=i→(∀y∈l,HasTy TT 84 y)→l.map absDc=((elsOf x).take i).map absDc→L17_3 x l (i:Int) g Qf) ?_ ?_ 0 (Nat.zero_le _) [] rfl (λy h=>by cases h) rfl
 ·intro l h1 h2 h3
  refine w17_3 ?_
  rw[Br_ge]
  rw[List.take_length] at h3
  exact hQ l h2 h1 h3
 ·intro i hi ih l h1 h2 h3
  refine w17_3 ?_
  rw[Br_lt hi,getE_nat hi]
  obtain⟨s1,a1,b1,p1,e1,hs1,ta1,tb1⟩:=decl_ty (ex.2 _ (List.getElem_mem hi))
  have hab:absDc (elsOf x)[i]=⟨s1,(elsOf a1).map strOf,(elsOf b1).map absCn,p1⟩:=by rw[e1];rfl
  rw[e1]
  have ea:=ta1.els undStrs
  have eb:=tb1.els undCons
  have ebl:=eb.1.1
  have tA:HasTy TT 82 (.sl 1 ([]++elsOf a1)):=.sl _ _ _ _ undStrs szStr (by simpa using ea.1) (by simpa using ea.2)
  refine⟨inB hi,(ea.1.le (by simp[fld,nth])).fits byStr,?_⟩
  refine loopUp (len:=(elsOf b1).length) (λj=>∀m:List Dat,m.length=j→(∀y∈m,HasTy TT 80 y)→m.map absCn=((elsOf b1).take j).map absCn→
   L17_9 x l (i:Int) m (j:Int) (.agg [.str s1,.sl 1 ([]++elsOf a1),b1,.int .i64 p1]) g Qf) ?_ ?_ 0 (Nat.zero_le _) [] rfl (λy h=>by cases h) rfl
  ·intro m q1 q2 q3
   refine w17_9 ?_
   rw[show(fld (Dat.agg [.str s1,.sl 1 ([]++elsOf a1),b1,.int .i64 p1]) 2)=b1 from rfl,Br_ge]
   refine⟨(ex.1.le (by simp;omega)).fits byDecl,?_⟩
   rw[wrap_nat (by omega)]
   rw[List.take_length] at q3
   have tB:HasTy TT 81 (slOf 2 m):=slOf_ty undCons szCon (by rw[q1];exact eb.1) q2
   refine ih _ (by simp[h1]) (λy hy=>?_) (take_snoc hi h3 ?_)
   ·rcases List.mem_append.1 hy with hy|hy
    ·exact h2 y hy
    ·simp only[List.mem_singleton] at hy;subst hy;exact ty_decl hs1 tA tB
   ·rw[hab]
    show(⟨s1,(elsOf (.sl 1 ([]++elsOf a1))).map strOf,(elsOf (slOf 2 m)).map absCn,p1⟩:Dc)=_
    rw[slOf_els,q3]
    rfl
  ·intro j hj ihj m q1 q2 q3
   refine w17_9 ?_
   rw[show(fld (Dat.agg [.str s1,.sl 1 ([]++elsOf a1),b1,.int .i64 p1]) 2)=b1 from rfl,Br_lt hj,getE_nat hj]
   obtain⟨t1,f1,d1,ht1,tf1⟩:=con_ty (eb.2 _ (List.getElem_mem hj))
   have hac:absCn (elsOf b1)[j]=⟨t1,absTyA f1⟩:=by rw[d1];rfl
   rw[d1]
   refine⟨inB hj,inB hj,copyTypes_ok _ f1 g (Nat.lt_succ_self _) tf1 _ λl' hl' hn' ha'=>?_⟩
   have tF:HasTy TT 59 (slOf 4 l'):=slOf_ty undTypes szType (by rw[hn'];exact(tf1.els undTypes).1) hl'
   refine⟨slOf 4 l',tF,retOf_ret _ _,(eb.1.le (by simp;omega)).fits byCon,?_⟩
   rw[wrap_nat (by omega)]
   refine ihj _ (by simp[q1]) (λy hy=>?_) (take_snoc hj q3 ?_)
   ·rcases List.mem_append.1 hy with hy|hy
    ·exact q2 y hy
    ·simp only[List.mem_singleton] at hy;subst hy;exact ty_con ht1 tF
   ·rw[hac]
    show(⟨t1,absTyA (slOf 4 l')⟩:Cn)=_
    rw[absTyA_map,slOf_els,ha',←absTyA_map]
theorem weighPat_ok:∀(k:Nat) (x:Dat) (g:Glob) (n1 n2:Int),SizeOf.sizeOf x<k→HasTy TT 52 x→∀(Qf:OGP),(∀n:Int,Qf (.val (.d (.int .i64 n))) g)→EvF TT 71 [x,.int .i64 n1,.int .i64 n2] g Qf
 |0,x,g,n1,n2,hk,_=>by omega
 |k+1,x,g,n1,n2,hk,hx=>by
  intro Qf hQ
  refine w71 hx ⟨neZ (by decide),Br_iff.2 ⟨λ_=>hQ _,λ_=>Br_iff.2 ⟨λ_=>hQ _,λ_=>?_⟩⟩⟩
  obtain⟨k1,s1,v1,a1,p1,rfl,hs1,t1⟩:=pat_ty hx
  have ex:=t1.els undPats
  have exl:=ex.1.1
  have hc:=sizeOf_cell (cs:=[.int .i64 k1,.str s1,.int .i64 v1,a1,.int .i64 p1]) (c:=a1) (by simp)
  refine loopUp (len:=(elsOf a1).length) (λi=>∀n:Int,L71_5 n1 n (i:Int) (.agg [.int .i64 k1,.str s1,.int .i64 v1,a1,.int .i64 p1]) g Qf) ?_ ?_ 0 (Nat.zero_le _) _
  ·intro n
   refine w71_5 ?_
   rw[show(fld (Dat.agg [.int .i64 k1,.str s1,.int .i64 v1,a1,.int .i64 p1]) 3)=a1 from rfl,Br_ge]
   exact hQ _
  ·intro i hi ih n
   refine w71_5 ?_
   rw[show(fld (Dat.agg [.int .i64 k1,.str s1,.int .i64 v1,a1,.int .i64 p1]) 3)=a1 from rfl,Br_lt hi,getE_nat hi]
   refine Br_iff.2 ⟨λ_=>⟨inB hi,?_⟩,λ_=>hQ _⟩
   have hsz:=sizeOf_el hi
   refine weighPat_ok k _ g _ _ (by omega) (ex.2 _ (List.getElem_mem hi)) _ λn'=>⟨_,rfl,?_⟩
   rw[wrap_nat (by omega)]
   exact ih n'
end Go.Proofs.YtiheejdkkjfenaaGreatDoor.Pa
namespace Go.Proofs.YtiheejdkkjfenaaGreatDoor.Pa
open Go Go.Proofs.YtiheejdkkjfenaaGreatDoor.Am
end Go.Proofs.YtiheejdkkjfenaaGreatDoor.Pa
