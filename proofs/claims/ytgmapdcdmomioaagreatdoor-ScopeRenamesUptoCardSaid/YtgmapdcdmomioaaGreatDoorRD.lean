/- What functions of the program do, printed by wip/tools/sx/sx.py. The document's comparisons of trees. What functions of the program do, printed by wip/tools/sx/sx.py. The document's comparison of programs; the program's own. The program's own comparison of programs. What functions of the program do, printed by wip/tools/sx/sx.py. The document's copies; what is too large. What functions of the program do, printed by wip/tools/sx/sx.py. The law ParseSame told: it answers true. -/
import Derived.Test.YtgmapdcdmomioaaGreatDoorRC
set_option linter.all false
set_option autoImplicit false
set_option maxRecDepth 100000
namespace Go.Proofs.YtgmapdcdmomioaaGreatDoor.Pa
open Go Go.Proofs.YtgmapdcdmomioaaGreatDoor.Am
end Go.Proofs.YtgmapdcdmomioaaGreatDoor.Pa
namespace Go.Proofs.YtgmapdcdmomioaaGreatDoor.Pa
open Go Go.Proofs.YtgmapdcdmomioaaGreatDoor.Am
end Go.Proofs.YtgmapdcdmomioaaGreatDoor.Pa
namespace Go.Proofs.YtgmapdcdmomioaaGreatDoor.Pa
open Go Go.Proofs.YtgmapdcdmomioaaGreatDoor.Am
end Go.Proofs.YtgmapdcdmomioaaGreatDoor.Pa
namespace Go.Proofs.YtgmapdcdmomioaaGreatDoor.Pa
open Go Go.Proofs.YtgmapdcdmomioaaGreatDoor.Am
theorem absDc_agg(s:Str)(a b:Dat)(k:IntKind)(p:Int):absDc (.agg [.str s,a,b,.int k p])=⟨s,(elsOf a).map strOf,(elsOf b).map absCn,p⟩:=rfl
theorem len_le{x:Dat}{t u:TypeId}(hu:TT.und t=some (.slice u))(hx:HasTy TT t x):(elsOf x).length≤2^40:=(hx.els hu).1.1
theorem one_expr{x:Dat}(hx:HasTy TT 27 x):HasTy TT 24 (.sl 7 [x]):=
 .sl _ _ _ _ undExprs (by kernel_rfl) ⟨by simp,λb hb=>by
  have:TT.bytes 27=some 104:=by kernel_rfl
  rw[this] at hb;cases hb;simp⟩ (by simpa using hx)
end Go.Proofs.YtgmapdcdmomioaaGreatDoor.Pa
namespace Go.Proofs.YtgmapdcdmomioaaGreatDoor.Pa
open Go Go.Proofs.YtgmapdcdmomioaaGreatDoor.Am
end Go.Proofs.YtgmapdcdmomioaaGreatDoor.Pa
namespace Go.Proofs.YtgmapdcdmomioaaGreatDoor.Pa
open Go Go.Proofs.YtgmapdcdmomioaaGreatDoor.Am
def L87_3(x0:Dat)(l3:List Dat)(n4:Int)(g:Glob)(Qf:OGP):Prop:=CutP TT Tryz.f87 [1,1,0,1,0] Qf (mkC TT 87 Tryz.f87 1 [(0,.v 89 (x0)),(3,.acc [(23,0)] 89 4 l3),(4,.v 3 (.int .i64 n4))] [] g)
def lo87:List CutI:=[⟨3,[(0,.keep),(3,.acc [23]),(4,.keep)],[]⟩]
theorem w87{x0:Dat}{g:Glob}{Qf:OGP}(h0:HasTy TT 89 x0)
 (h:L87_3 x0 [] 0 g Qf):
 EvF TT 87 [x0] g Qf:=
 sx_fun (rk:=rk) (fn:=Tryz.f87) (loops:=lo87) (joins:=[]) (n:=100000) (args:=[(89,x0)]) rfl rfl rfl rfl ⟨h0,trivial⟩ (by kernel_rfl) h
theorem w87_3{x0:Dat}{l3:List Dat}{n4:Int}{g:Glob}{Qf:OGP}
 (h:Br (decide (n4<(↑(elsOf x0).length:Int))) (InB n4 (elsOf x0).length∧EvF TT 87 [fld (getE (elsOf x0) n4) 3] g (KQ Qf λv g'=>∃x,HasTy TT 89 x∧RetV v x∧Fits (l3.length+[Dat.agg [.int .i64 (intOf (fld (getE (elsOf x0) n4) 0)),.str (strOf (fld (getE (elsOf x0) n4) 1)),.int .i64 (intOf (fld (getE (elsOf x0) n4) 2)),x]].length) 56∧L87_3 x0 (l3++[Dat.agg [.int .i64 (intOf (fld (getE (elsOf x0) n4) 0)),.str (strOf (fld (getE (elsOf x0) n4) 1)),.int .i64 (intOf (fld (getE (elsOf x0) n4) 2)),x]]) (IntKind.i64.wrap (n4+1)) g' Qf)) (Qf (.val (retOf 4 l3)) g)):
 L87_3 x0 l3 n4 g Qf:=sx_cut (rk:=rk) (loops:=lo87) (joins:=[]) (n:=100000) (by kernel_rfl) h
def L93_3(x0:Dat)(l3:List Dat)(n4:Int)(g:Glob)(Qf:OGP):Prop:=CutP TT Tryz.f93 [1,1,0,1,0] Qf (mkC TT 93 Tryz.f93 1 [(0,.v 25 (x0)),(3,.acc [(23,0)] 25 5 l3),(4,.v 3 (.int .i64 n4))] [] g)
def lo93:List CutI:=[⟨3,[(0,.keep),(3,.acc [23]),(4,.keep)],[]⟩]
theorem w93{x0:Dat}{g:Glob}{Qf:OGP}(h0:HasTy TT 25 x0)
 (h:L93_3 x0 [] 0 g Qf):
 EvF TT 93 [x0] g Qf:=
 sx_fun (rk:=rk) (fn:=Tryz.f93) (loops:=lo93) (joins:=[]) (n:=100000) (args:=[(25,x0)]) rfl rfl rfl rfl ⟨h0,trivial⟩ (by kernel_rfl) h
theorem w93_3{x0:Dat}{l3:List Dat}{n4:Int}{g:Glob}{Qf:OGP}
 (h:Br (decide (n4<(↑(elsOf x0).length:Int))) (InB n4 (elsOf x0).length∧EvF TT 93 [fld (getE (elsOf x0) n4) 3] g (KQ Qf λv g'=>∃x,HasTy TT 25 x∧RetV v x∧Fits (l3.length+[Dat.agg [.int .i64 (intOf (fld (getE (elsOf x0) n4) 0)),.str (strOf (fld (getE (elsOf x0) n4) 1)),.int .i64 (intOf (fld (getE (elsOf x0) n4) 2)),x,.int .i64 (intOf (fld (getE (elsOf x0) n4) 4))]].length) 64∧L93_3 x0 (l3++[Dat.agg [.int .i64 (intOf (fld (getE (elsOf x0) n4) 0)),.str (strOf (fld (getE (elsOf x0) n4) 1)),.int .i64 (intOf (fld (getE (elsOf x0) n4) 2)),x,.int .i64 (intOf (fld (getE (elsOf x0) n4) 4))]]) (IntKind.i64.wrap (n4+1)) g' Qf)) (Qf (.val (retOf 5 l3)) g)):
 L93_3 x0 l3 n4 g Qf:=sx_cut (rk:=rk) (loops:=lo93) (joins:=[]) (n:=100000) (by kernel_rfl) h
def L41_3(x0:Dat)(l3:List Dat)(n4:Int)(g:Glob)(Qf:OGP):Prop:=CutP TT Tryz.f41 [1,1,0,1,0] Qf (mkC TT 41 Tryz.f41 1 [(0,.v 24 (x0)),(3,.acc [(27,0)] 24 7 l3),(4,.v 3 (.int .i64 n4))] [] g)
def lo41:List CutI:=[⟨3,[(0,.keep),(3,.acc [27]),(4,.keep)],[]⟩]
theorem w41{x0:Dat}{g:Glob}{Qf:OGP}(h0:HasTy TT 24 x0)
 (h:L41_3 x0 [] 0 g Qf):
 EvF TT 41 [x0] g Qf:=
 sx_fun (rk:=rk) (fn:=Tryz.f41) (loops:=lo41) (joins:=[]) (n:=100000) (args:=[(24,x0)]) rfl rfl rfl rfl ⟨h0,trivial⟩ (by kernel_rfl) h
theorem w41_3{x0:Dat}{l3:List Dat}{n4:Int}{g:Glob}{Qf:OGP}
 (h:Br (decide (n4<(↑(elsOf x0).length:Int))) (InB n4 (elsOf x0).length∧EvF TT 41 [fld (getE (elsOf x0) n4) 4] g (KQ Qf λv g'=>∃x,HasTy TT 24 x∧RetV v x∧EvF TT 93 [fld (getE (elsOf x0) n4) 5] g' (KQ Qf λv g'=>∃x_1,HasTy TT 25 x_1∧RetV v x_1∧Fits (l3.length+[Dat.agg [.int .i64 (intOf (fld (getE (elsOf x0) n4) 0)),.str (strOf (fld (getE (elsOf x0) n4) 1)),.str (strOf (fld (getE (elsOf x0) n4) 2)),.int .i64 (intOf (fld (getE (elsOf x0) n4) 3)),x,x_1,.int .i64 (intOf (fld (getE (elsOf x0) n4) 6))]].length) 104∧L41_3 x0 (l3++[Dat.agg [.int .i64 (intOf (fld (getE (elsOf x0) n4) 0)),.str (strOf (fld (getE (elsOf x0) n4) 1)),.str (strOf (fld (getE (elsOf x0) n4) 2)),.int .i64 (intOf (fld (getE (elsOf x0) n4) 3)),x,x_1,.int .i64 (intOf (fld (getE (elsOf x0) n4) 6))]]) (IntKind.i64.wrap (n4+1)) g' Qf))) (Qf (.val (retOf 7 l3)) g)):
 L41_3 x0 l3 n4 g Qf:=sx_cut (rk:=rk) (loops:=lo41) (joins:=[]) (n:=100000) (by kernel_rfl) h
def L36_3(x0:Dat)(l3:List Dat)(n4:Int)(g:Glob)(Qf:OGP):Prop:=CutP TT Tryz.f36 [1,1,0,1,0] Qf (mkC TT 36 Tryz.f36 1 [(0,.v 23 (x0)),(3,.acc [(52,0)] 23 4 l3),(4,.v 3 (.int .i64 n4))] [] g)
def L36_9(x0:Dat)(l3:List Dat)(n4:Int)(l6:List Dat)(n7:Int)(y5:Dat)(g:Glob)(Qf:OGP):Prop:=CutP TT Tryz.f36 [1,1,0,1,0,0,1,0,0,1,1,1,0,1,0] Qf (mkC TT 36 Tryz.f36 1 [(0,.v 23 (x0)),(3,.acc [(52,0)] 23 4 l3),(4,.v 3 (.int .i64 n4)),(5,.loc 5 0 0),(6,.acc [(46,0)] 74 2 l6),(7,.v 3 (.int .i64 n7))] [(5,.whole 76 y5)] g)
def lo36:List CutI:=[⟨3,[(0,.keep),(3,.acc [52]),(4,.keep)],[]⟩,⟨9,[(0,.keep),(3,.acc [52]),(4,.keep),(5,.keep),(6,.acc [46]),(7,.keep)],[(5,.whole 76)]⟩]
theorem w36{x0:Dat}{g:Glob}{Qf:OGP}(h0:HasTy TT 23 x0)
 (h:L36_3 x0 [] 0 g Qf):
 EvF TT 36 [x0] g Qf:=
 sx_fun (rk:=rk) (fn:=Tryz.f36) (loops:=lo36) (joins:=[]) (n:=100000) (args:=[(23,x0)]) rfl rfl rfl rfl ⟨h0,trivial⟩ (by kernel_rfl) h
theorem w36_3{x0:Dat}{l3:List Dat}{n4:Int}{g:Glob}{Qf:OGP}
 (h:Br (decide (n4<(↑(elsOf x0).length:Int))) (InB n4 (elsOf x0).length∧Fits (0+(elsOf (fld (getE (elsOf x0) n4) 1)).length) 16∧L36_9 x0 l3 n4 [] 0 (.agg [.str (strOf (fld (getE (elsOf x0) n4) 0)),.sl 1 ([]++elsOf (fld (getE (elsOf x0) n4) 1)),fld (getE (elsOf x0) n4) 2,.int .i64 (intOf (fld (getE (elsOf x0) n4) 3))]) g Qf) (Qf (.val (retOf 4 l3)) g)):
 L36_3 x0 l3 n4 g Qf:=sx_cut (rk:=rk) (loops:=lo36) (joins:=[]) (n:=100000) (by kernel_rfl) h
theorem w36_9{x0:Dat}{l3:List Dat}{n4:Int}{l6:List Dat}{n7:Int}{y5:Dat}{g:Glob}{Qf:OGP}
 (h:Br (decide (n7<(↑(elsOf (fld y5 2)).length:Int))) (InB n7 (elsOf (fld y5 2)).length∧InB n7 (elsOf (fld y5 2)).length∧EvF TT 87 [fld (getE (elsOf (fld y5 2)) n7) 1] g (KQ Qf λv g'=>∃x,HasTy TT 89 x∧RetV v x∧Fits (l6.length+[Dat.agg [.str (strOf (fld (getE (elsOf (fld y5 2)) n7) 0)),x]].length) 40∧L36_9 x0 l3 n4 (l6++[Dat.agg [.str (strOf (fld (getE (elsOf (fld y5 2)) n7) 0)),x]]) (IntKind.i64.wrap (n7+1)) y5 g' Qf)) (Fits (l3.length+[Dat.agg [.str (strOf (fld y5 0)),fld y5 1,slOf 2 l6,.int .i64 (intOf (fld y5 3))]].length) 72∧L36_3 x0 (l3++[Dat.agg [.str (strOf (fld y5 0)),fld y5 1,slOf 2 l6,.int .i64 (intOf (fld y5 3))]]) (IntKind.i64.wrap (n4+1)) g Qf)):
 L36_9 x0 l3 n4 l6 n7 y5 g Qf:=sx_cut (rk:=rk) (loops:=lo36) (joins:=[]) (n:=100000) (by kernel_rfl) h
def lo23:List CutI:=[]
theorem w23{x0:Dat}{g:Glob}{Qf:OGP}(h0:HasTy TT 29 x0)
 (h:EvF TT 36 [fld x0 0] g (KQ Qf λv g'=>∃x,HasTy TT 23 x∧RetV v x∧EvF TT 41 [.sl 7 [sub x0 1 7]] g' (KQ Qf λv g'=>∃x_1,HasTy TT 24 x_1∧RetV v x_1∧InB 0 (elsOf x_1).length∧Qf (.val (.d (.agg [x,.int .i64 (intOf (.int .i64 (intOf (fld (getE (elsOf x_1) 0) 0)))),.str (strOf (.str (strOf (fld (getE (elsOf x_1) 0) 1)))),.str (strOf (.str (strOf (fld (getE (elsOf x_1) 0) 2)))),.int .i64 (intOf (.int .i64 (intOf (fld (getE (elsOf x_1) 0) 3)))),fld (.agg [x,.int .i64 (intOf (fld (getE (elsOf x_1) 0) 0)),.str (strOf (fld (getE (elsOf x_1) 0) 1)),.str (strOf (fld (getE (elsOf x_1) 0) 2)),.int .i64 (intOf (fld (getE (elsOf x_1) 0) 3)),fld (getE (elsOf x_1) 0) 4,fld (getE (elsOf x_1) 0) 5,.int .i64 (intOf (fld (getE (elsOf x_1) 0) 6))]) 5,fld (.agg [x,.int .i64 (intOf (fld (getE (elsOf x_1) 0) 0)),.str (strOf (fld (getE (elsOf x_1) 0) 1)),.str (strOf (fld (getE (elsOf x_1) 0) 2)),.int .i64 (intOf (fld (getE (elsOf x_1) 0) 3)),fld (getE (elsOf x_1) 0) 4,fld (getE (elsOf x_1) 0) 5,.int .i64 (intOf (fld (getE (elsOf x_1) 0) 6))]) 6,.int .i64 (intOf (.int .i64 (intOf (fld (getE (elsOf x_1) 0) 6))))]))) g'))):
 EvF TT 23 [x0] g Qf:=
 sx_fun (rk:=rk) (fn:=Tryz.f23) (loops:=lo23) (joins:=[]) (n:=100000) (args:=[(29,x0)]) rfl rfl rfl rfl ⟨h0,trivial⟩ (by kernel_rfl) h
def L125_5(n1:Int)(n2:Int)(n7:Int)(y3:Dat)(g:Glob)(Qf:OGP):Prop:=CutP TT Tryz.f125 [1,1,1,0,1,0] Qf (mkC TT 125 Tryz.f125 3 [(1,.v 3 (.int .i64 n1)),(2,.v 3 (.int .i64 n2)),(3,.loc 3 0 0),(7,.v 3 (.int .i64 n7))] [(3,.whole 94 y3)] g)
def lo125:List CutI:=[⟨5,[(1,.keep),(2,.keep),(3,.keep),(7,.keep)],[(3,.whole 94)]⟩]
theorem w125{x0:Dat}{n1:Int}{n2:Int}{g:Glob}{Qf:OGP}(h0:HasTy TT 94 x0)
 (h:NeZ 10∧Br (decide (20000<IntKind.i64.wrap (n2+IntKind.i64.wrap (1+IntKind.i64.wrap ((↑(elsOf (fld x0 3)).length:Int).tdiv 10))))) (Qf (.val (.d (.int .i64 (-1)))) g) (Br (decide (600<n1)) (Qf (.val (.d (.int .i64 (-1)))) g) (L125_5 n1 (IntKind.i64.wrap (n2+IntKind.i64.wrap (1+IntKind.i64.wrap ((↑(elsOf (fld x0 3)).length:Int).tdiv 10)))) 0 x0 g Qf))):
 EvF TT 125 [x0,.int .i64 n1,.int .i64 n2] g Qf:=
 sx_fun (rk:=rk) (fn:=Tryz.f125) (loops:=lo125) (joins:=[]) (n:=100000) (args:=[(94,x0),(3,.int .i64 n1),(3,.int .i64 n2)]) rfl rfl rfl rfl ⟨h0,tyInt rfl,tyInt rfl,trivial⟩ (by kernel_rfl) h
theorem w125_5{n1:Int}{n2:Int}{n7:Int}{y3:Dat}{g:Glob}{Qf:OGP}
 (h:Br (decide (n7<(↑(elsOf (fld y3 3)).length:Int))) (Br (decide (0≤n2)) (InB n7 (elsOf (fld y3 3)).length∧EvF TT 125 [getE (elsOf (fld y3 3)) n7,.int .i64 (IntKind.i64.wrap (n1+1)),.int .i64 n2] g (KQ Qf λv g'=>∃n,v=.d (.int .i64 n)∧L125_5 n1 n (IntKind.i64.wrap (n7+1)) y3 g' Qf)) (Qf (.val (.d (.int .i64 n2))) g)) (Qf (.val (.d (.int .i64 n2))) g)):
 L125_5 n1 n2 n7 y3 g Qf:=sx_cut (rk:=rk) (loops:=lo125) (joins:=[]) (n:=100000) (by kernel_rfl) h
def L159_5(n1:Int)(n2:Int)(n7:Int)(y3:Dat)(g:Glob)(Qf:OGP):Prop:=CutP TT Tryz.f159 [1,1,1,0,1,0] Qf (mkC TT 159 Tryz.f159 3 [(1,.v 3 (.int .i64 n1)),(2,.v 3 (.int .i64 n2)),(3,.loc 3 0 0),(7,.v 3 (.int .i64 n7))] [(3,.whole 127 y3)] g)
def lo159:List CutI:=[⟨5,[(1,.keep),(2,.keep),(3,.keep),(7,.keep)],[(3,.whole 127)]⟩]
theorem w159{x0:Dat}{n1:Int}{n2:Int}{g:Glob}{Qf:OGP}(h0:HasTy TT 127 x0)
 (h:NeZ 10∧Br (decide (20000<IntKind.i64.wrap (n2+IntKind.i64.wrap (1+IntKind.i64.wrap ((↑(elsOf (fld x0 3)).length:Int).tdiv 10))))) (Qf (.val (.d (.int .i64 (-1)))) g) (Br (decide (600<n1)) (Qf (.val (.d (.int .i64 (-1)))) g) (L159_5 n1 (IntKind.i64.wrap (n2+IntKind.i64.wrap (1+IntKind.i64.wrap ((↑(elsOf (fld x0 3)).length:Int).tdiv 10)))) 0 x0 g Qf))):
 EvF TT 159 [x0,.int .i64 n1,.int .i64 n2] g Qf:=
 sx_fun (rk:=rk) (fn:=Tryz.f159) (loops:=lo159) (joins:=[]) (n:=100000) (args:=[(127,x0),(3,.int .i64 n1),(3,.int .i64 n2)]) rfl rfl rfl rfl ⟨h0,tyInt rfl,tyInt rfl,trivial⟩ (by kernel_rfl) h
theorem w159_5{n1:Int}{n2:Int}{n7:Int}{y3:Dat}{g:Glob}{Qf:OGP}
 (h:Br (decide (n7<(↑(elsOf (fld y3 3)).length:Int))) (Br (decide (0≤n2)) (InB n7 (elsOf (fld y3 3)).length∧EvF TT 159 [getE (elsOf (fld y3 3)) n7,.int .i64 (IntKind.i64.wrap (n1+1)),.int .i64 n2] g (KQ Qf λv g'=>∃n,v=.d (.int .i64 n)∧L159_5 n1 n (IntKind.i64.wrap (n7+1)) y3 g' Qf)) (Qf (.val (.d (.int .i64 n2))) g)) (Qf (.val (.d (.int .i64 n2))) g)):
 L159_5 n1 n2 n7 y3 g Qf:=sx_cut (rk:=rk) (loops:=lo159) (joins:=[]) (n:=100000) (by kernel_rfl) h
def L88_5(n1:Int)(n2:Int)(n7:Int)(y3:Dat)(g:Glob)(Qf:OGP):Prop:=CutP TT Tryz.f88 [1,1,1,0,1,0] Qf (mkC TT 88 Tryz.f88 3 [(1,.v 3 (.int .i64 n1)),(2,.v 3 (.int .i64 n2)),(3,.loc 3 0 0),(7,.v 3 (.int .i64 n7))] [(3,.whole 27 y3)] g)
def L88_9(n1:Int)(n2:Int)(n8:Int)(y3:Dat)(g:Glob)(Qf:OGP):Prop:=CutP TT Tryz.f88 [1,1,1,1,0,1,0] Qf (mkC TT 88 Tryz.f88 3 [(1,.v 3 (.int .i64 n1)),(2,.v 3 (.int .i64 n2)),(3,.loc 3 0 0),(8,.v 3 (.int .i64 n8))] [(3,.whole 27 y3)] g)
def lo88:List CutI:=[⟨5,[(1,.keep),(2,.keep),(3,.keep),(7,.keep)],[(3,.whole 27)]⟩,⟨9,[(1,.keep),(2,.keep),(3,.keep),(8,.keep)],[(3,.whole 27)]⟩]
theorem w88{x0:Dat}{n1:Int}{n2:Int}{g:Glob}{Qf:OGP}(h0:HasTy TT 27 x0)
 (h:NeZ 10∧NeZ 10∧Br (decide (20000<IntKind.i64.wrap (n2+IntKind.i64.wrap (IntKind.i64.wrap (1+IntKind.i64.wrap ((↑(elsOf (fld x0 4)).length:Int).tdiv 10))+IntKind.i64.wrap ((↑(elsOf (fld x0 5)).length:Int).tdiv 10))))) (Qf (.val (.d (.int .i64 (-1)))) g) (Br (decide (600<n1)) (Qf (.val (.d (.int .i64 (-1)))) g) (L88_5 n1 (IntKind.i64.wrap (n2+IntKind.i64.wrap (IntKind.i64.wrap (1+IntKind.i64.wrap ((↑(elsOf (fld x0 4)).length:Int).tdiv 10))+IntKind.i64.wrap ((↑(elsOf (fld x0 5)).length:Int).tdiv 10)))) 0 x0 g Qf))):
 EvF TT 88 [x0,.int .i64 n1,.int .i64 n2] g Qf:=
 sx_fun (rk:=rk) (fn:=Tryz.f88) (loops:=lo88) (joins:=[]) (n:=100000) (args:=[(27,x0),(3,.int .i64 n1),(3,.int .i64 n2)]) rfl rfl rfl rfl ⟨h0,tyInt rfl,tyInt rfl,trivial⟩ (by kernel_rfl) h
theorem w88_5{n1:Int}{n2:Int}{n7:Int}{y3:Dat}{g:Glob}{Qf:OGP}
 (h:Br (decide (n7<(↑(elsOf (fld y3 5)).length:Int))) (Br (decide (0≤n2)) (InB n7 (elsOf (fld y3 5)).length∧EvF TT 159 [getE (elsOf (fld y3 5)) n7,.int .i64 (IntKind.i64.wrap (n1+1)),.int .i64 n2] g (KQ Qf λv g'=>∃n,v=.d (.int .i64 n)∧L88_5 n1 n (IntKind.i64.wrap (n7+1)) y3 g' Qf)) (L88_9 n1 n2 0 y3 g Qf)) (L88_9 n1 n2 0 y3 g Qf)):
 L88_5 n1 n2 n7 y3 g Qf:=sx_cut (rk:=rk) (loops:=lo88) (joins:=[]) (n:=100000) (by kernel_rfl) h
theorem w88_9{n1:Int}{n2:Int}{n8:Int}{y3:Dat}{g:Glob}{Qf:OGP}
 (h:Br (decide (n8<(↑(elsOf (fld y3 4)).length:Int))) (Br (decide (0≤n2)) (InB n8 (elsOf (fld y3 4)).length∧EvF TT 88 [getE (elsOf (fld y3 4)) n8,.int .i64 (IntKind.i64.wrap (n1+1)),.int .i64 n2] g (KQ Qf λv g'=>∃n,v=.d (.int .i64 n)∧L88_9 n1 n (IntKind.i64.wrap (n8+1)) y3 g' Qf)) (Qf (.val (.d (.int .i64 n2))) g)) (Qf (.val (.d (.int .i64 n2))) g)):
 L88_9 n1 n2 n8 y3 g Qf:=sx_cut (rk:=rk) (loops:=lo88) (joins:=[]) (n:=100000) (by kernel_rfl) h
def L58_5(x0:Dat)(n3:Int)(n4:Int)(g:Glob)(Qf:OGP):Prop:=CutP TT Tryz.f58 [1,1,1,0,1,0] Qf (mkC TT 58 Tryz.f58 1 [(0,.v 23 (x0)),(3,.v 3 (.int .i64 n3)),(4,.v 3 (.int .i64 n4))] [] g)
def L58_10(x0:Dat)(n3:Int)(n4:Int)(n5:Int)(g:Glob)(Qf:OGP):Prop:=CutP TT Tryz.f58 [1,1,1,0,1,0,0,1,0,0,1,1,0] Qf (mkC TT 58 Tryz.f58 1 [(0,.v 23 (x0)),(3,.v 3 (.int .i64 n3)),(4,.v 3 (.int .i64 n4)),(5,.v 3 (.int .i64 n5))] [] g)
def L58_15(x0:Dat)(n3:Int)(n4:Int)(n5:Int)(n6:Int)(g:Glob)(Qf:OGP):Prop:=CutP TT Tryz.f58 [1,1,1,0,1,0,0,1,0,0,1,1,0,0,1,0,0,1,0,1,0] Qf (mkC TT 58 Tryz.f58 1 [(0,.v 23 (x0)),(3,.v 3 (.int .i64 n3)),(4,.v 3 (.int .i64 n4)),(5,.v 3 (.int .i64 n5)),(6,.v 3 (.int .i64 n6))] [] g)
def lo58:List CutI:=[⟨5,[(0,.keep),(3,.keep),(4,.keep)],[]⟩,⟨10,[(0,.keep),(3,.keep),(4,.keep),(5,.keep)],[]⟩,⟨15,[(0,.keep),(3,.keep),(4,.keep),(5,.keep),(6,.keep)],[]⟩]
theorem w58{x0:Dat}{g:Glob}{Qf:OGP}(h0:HasTy TT 23 x0)
 (h:Br (decide (200<(↑(elsOf x0).length:Int))) (Qf (.val (.d (.bool true))) g) (L58_5 x0 0 0 g Qf)):
 EvF TT 58 [x0] g Qf:=
 sx_fun (rk:=rk) (fn:=Tryz.f58) (loops:=lo58) (joins:=[]) (n:=100000) (args:=[(23,x0)]) rfl rfl rfl rfl ⟨h0,trivial⟩ (by kernel_rfl) h
theorem w58_5{x0:Dat}{n3:Int}{n4:Int}{g:Glob}{Qf:OGP}
 (h:Br (decide (n4<(↑(elsOf x0).length:Int))) (InB n4 (elsOf x0).length∧Br (decide (200<(↑(elsOf (fld (getE (elsOf x0) n4) 2)).length:Int))) (Qf (.val (.d (.bool true))) g) (InB n4 (elsOf x0).length∧Br (decide (200<(↑(elsOf (fld (getE (elsOf x0) n4) 1)).length:Int))) (Qf (.val (.d (.bool true))) g) (L58_10 x0 n3 n4 0 g Qf))) (Qf (.val (.d (.bool false))) g)):
 L58_5 x0 n3 n4 g Qf:=sx_cut (rk:=rk) (loops:=lo58) (joins:=[]) (n:=100000) (by kernel_rfl) h
theorem w58_10{x0:Dat}{n3:Int}{n4:Int}{n5:Int}{g:Glob}{Qf:OGP}
 (h:InB n4 (elsOf x0).length∧Br (decide (n5<(↑(elsOf (fld (getE (elsOf x0) n4) 2)).length:Int))) (InB n4 (elsOf x0).length∧InB n5 (elsOf (fld (getE (elsOf x0) n4) 2)).length∧Br (decide (200<(↑(elsOf (fld (getE (elsOf (fld (getE (elsOf x0) n4) 2)) n5) 1)).length:Int))) (Qf (.val (.d (.bool true))) g) (L58_15 x0 n3 n4 n5 0 g Qf)) (L58_5 x0 n3 (IntKind.i64.wrap (n4+1)) g Qf)):
 L58_10 x0 n3 n4 n5 g Qf:=sx_cut (rk:=rk) (loops:=lo58) (joins:=[]) (n:=100000) (by kernel_rfl) h
theorem w58_15{x0:Dat}{n3:Int}{n4:Int}{n5:Int}{n6:Int}{g:Glob}{Qf:OGP}
 (h:InB n4 (elsOf x0).length∧InB n5 (elsOf (fld (getE (elsOf x0) n4) 2)).length∧Br (decide (n6<(↑(elsOf (fld (getE (elsOf (fld (getE (elsOf x0) n4) 2)) n5) 1)).length:Int))) (Br (decide (0≤n3)) (InB n4 (elsOf x0).length∧InB n5 (elsOf (fld (getE (elsOf x0) n4) 2)).length∧InB n6 (elsOf (fld (getE (elsOf (fld (getE (elsOf x0) n4) 2)) n5) 1)).length∧EvF TT 125 [getE (elsOf (fld (getE (elsOf (fld (getE (elsOf x0) n4) 2)) n5) 1)) n6,.int .i64 0,.int .i64 n3] g (KQ Qf λv g'=>∃n,v=.d (.int .i64 n)∧L58_15 x0 n n4 n5 (IntKind.i64.wrap (n6+1)) g' Qf)) (Br (decide (n3<0)) (Qf (.val (.d (.bool true))) g) (L58_10 x0 n3 n4 (IntKind.i64.wrap (n5+1)) g Qf))) (Br (decide (n3<0)) (Qf (.val (.d (.bool true))) g) (L58_10 x0 n3 n4 (IntKind.i64.wrap (n5+1)) g Qf))):
 L58_15 x0 n3 n4 n5 n6 g Qf:=sx_cut (rk:=rk) (loops:=lo58) (joins:=[]) (n:=100000) (by kernel_rfl) h
def lo37:List CutI:=[]
theorem w37{x0:Dat}{g:Glob}{Qf:OGP}(h0:HasTy TT 27 x0)
 (h:EvF TT 88 [x0,.int .i64 0,.int .i64 0] g (KQ Qf λv g'=>∃n,v=.d (.int .i64 n)∧Qf (.val (.d (.bool (decide (n<0))))) g')):
 EvF TT 37 [x0] g Qf:=
 sx_fun (rk:=rk) (fn:=Tryz.f37) (loops:=lo37) (joins:=[]) (n:=100000) (args:=[(27,x0)]) rfl rfl rfl rfl ⟨h0,trivial⟩ (by kernel_rfl) h
def lo21:List CutI:=[]
theorem w21{x0:Dat}{g:Glob}{Qf:OGP}(h0:HasTy TT 29 x0)
 (h:EvF TT 58 [fld x0 0] g (KQ Qf λv g'=>∃b,v=.d (.bool b)∧Br b (Qf (.val (.d (.bool true))) g') (EvF TT 37 [sub x0 1 7] g' (KQ Qf λv g'=>∃b,v=.d (.bool b)∧Qf (.val (.d (.bool b))) g')))):
 EvF TT 21 [x0] g Qf:=
 sx_fun (rk:=rk) (fn:=Tryz.f21) (loops:=lo21) (joins:=[]) (n:=100000) (args:=[(29,x0)]) rfl rfl rfl rfl ⟨h0,trivial⟩ (by kernel_rfl) h
end Go.Proofs.YtgmapdcdmomioaaGreatDoor.Pa
namespace Go.Proofs.YtgmapdcdmomioaaGreatDoor.Pa
open Go Go.Proofs.YtgmapdcdmomioaaGreatDoor.Am
theorem retOf_ret(m:Nat)(l:List Dat):RetV (retOf m l) (slOf m l):=by cases l<;>rfl
theorem byType:TT.bytes 94=some 56:=by kernel_rfl
theorem byPat:TT.bytes 127=some 64:=by kernel_rfl
theorem byExpr:TT.bytes 27=some 104:=by kernel_rfl
theorem byCon:TT.bytes 91=some 40:=by kernel_rfl
theorem byDecl:TT.bytes 76=some 72:=by kernel_rfl
theorem byStr:TT.bytes 9=some 16:=by kernel_rfl
theorem szType:TT.size 94=some 4:=by kernel_rfl
theorem szPat:TT.size 127=some 5:=by kernel_rfl
theorem szExpr:TT.size 27=some 7:=by kernel_rfl
theorem szCon:TT.size 91=some 2:=by kernel_rfl
theorem szDecl:TT.size 76=some 4:=by kernel_rfl
theorem szStr:TT.size 9=some 1:=by kernel_rfl
theorem take_snoc{α β:Type}{f:α→β}{xs:List α}{ys:List α}{i:Nat}{y:α}(hi:i<xs.length)(h:ys.map f=(xs.take i).map f)(hy:f y=f xs[i]):(ys++[y]).map f=(xs.take (i+1)).map f:=by
 rw[List.map_append,h,List.take_succ_eq_append_getElem hi,List.map_append,List.map_singleton,List.map_singleton,hy]
theorem copyTypes_ok:∀(k:Nat) (x:Dat) (g:Glob),SizeOf.sizeOf x<k→HasTy TT 89 x→∀(Qf:OGP),(∀l:List Dat,(∀y∈l,HasTy TT 94 y)→l.length=(elsOf x).length→l.map absTy=(elsOf x).map absTy→Qf (.val (retOf 4 l)) g)→EvF TT 87 [x] g Qf
 |0,x,g,hk,_=>by omega
 |k+1,x,g,hk,hx=>by
  intro Qf hQ
  have ex:=hx.els undTypes
  have exl:=ex.1.1
  refine w87 hx ?_
  refine loopUp (len:=(elsOf x).length) (λi=>∀l:List Dat,l.length=i→(∀y∈l,HasTy TT 94 y)→l.map absTy=((elsOf x).take i).map absTy→L87_3 x l (i:Int) g Qf) ?_ ?_ 0 (Nat.zero_le _) [] rfl (λy h=>by cases h) rfl
  ·intro l h1 h2 h3
   refine w87_3 ?_
   rw[Br_ge]
   rw[List.take_length] at h3
   exact hQ l h2 h1 h3
  ·intro i hi ih l h1 h2 h3
   refine w87_3 ?_
   rw[Br_lt hi,getE_nat hi]
   have hsz:=sizeOf_el hi
   obtain⟨k1,s1,n1,a1,e1,hs1,t1⟩:=type_ty (ex.2 _ (List.getElem_mem hi))
   have hab:absTy (elsOf x)[i]=.mk k1 s1 n1 (absTyA a1):=by rw[e1];rfl
   rw[e1] at hsz⊢
   have hc:=sizeOf_cell (cs:=[.int .i64 k1,.str s1,.int .i64 n1,a1]) (c:=a1) (by simp)
   refine⟨inB hi,copyTypes_ok k a1 g (by omega) t1 _ λl' hl' hn' ha'=>?_⟩
   have ta:HasTy TT 89 (slOf 4 l'):=slOf_ty undTypes szType (by rw[hn'];exact(t1.els undTypes).1) hl'
   refine⟨slOf 4 l',ta,retOf_ret _ _,(ex.1.le (by simp;omega)).fits byType,?_⟩
   rw[wrap_nat (by omega)]
   refine ih _ (by simp[h1]) (λy hy=>?_) (take_snoc hi h3 ?_)
   ·rcases List.mem_append.1 hy with hy|hy
    ·exact h2 y hy
    ·simp only[List.mem_singleton] at hy;subst hy;exact ty_type hs1 ta
   ·rw[hab]
    show Ty.mk k1 s1 n1 (absTyA (slOf 4 l'))=_
    rw[absTyA_map,slOf_els,ha',←absTyA_map]
theorem copyPats_ok:∀(k:Nat) (x:Dat) (g:Glob),SizeOf.sizeOf x<k→HasTy TT 25 x→∀(Qf:OGP),(∀l:List Dat,(∀y∈l,HasTy TT 127 y)→l.length=(elsOf x).length→l.map absPt=(elsOf x).map absPt→Qf (.val (retOf 5 l)) g)→EvF TT 93 [x] g Qf
 |0,x,g,hk,_=>by omega
 |k+1,x,g,hk,hx=>by
  intro Qf hQ
  have ex:=hx.els undPats
  have exl:=ex.1.1
  refine w93 hx ?_
  refine loopUp (len:=(elsOf x).length) (λi=>∀l:List Dat,l.length=i→(∀y∈l,HasTy TT 127 y)→l.map absPt=((elsOf x).take i).map absPt→L93_3 x l (i:Int) g Qf) ?_ ?_ 0 (Nat.zero_le _) [] rfl (λy h=>by cases h) rfl
  ·intro l h1 h2 h3
   refine w93_3 ?_
   rw[Br_ge]
   rw[List.take_length] at h3
   exact hQ l h2 h1 h3
  ·intro i hi ih l h1 h2 h3
   refine w93_3 ?_
   rw[Br_lt hi,getE_nat hi]
   have hsz:=sizeOf_el hi
   obtain⟨k1,s1,n1,a1,p1,e1,hs1,t1⟩:=pat_ty (ex.2 _ (List.getElem_mem hi))
   have hab:absPt (elsOf x)[i]=.mk k1 s1 n1 (absPtA a1) p1:=by rw[e1];rfl
   rw[e1] at hsz⊢
   have hc:=sizeOf_cell (cs:=[.int .i64 k1,.str s1,.int .i64 n1,a1,.int .i64 p1]) (c:=a1) (by simp)
   refine⟨inB hi,copyPats_ok k a1 g (by omega) t1 _ λl' hl' hn' ha'=>?_⟩
   have ta:HasTy TT 25 (slOf 5 l'):=slOf_ty undPats szPat (by rw[hn'];exact(t1.els undPats).1) hl'
   refine⟨slOf 5 l',ta,retOf_ret _ _,(ex.1.le (by simp;omega)).fits byPat,?_⟩
   rw[wrap_nat (by omega)]
   refine ih _ (by simp[h1]) (λy hy=>?_) (take_snoc hi h3 ?_)
   ·rcases List.mem_append.1 hy with hy|hy
    ·exact h2 y hy
    ·simp only[List.mem_singleton] at hy;subst hy;exact ty_pat hs1 ta
   ·rw[hab]
    show Pt.mk k1 s1 n1 (absPtA (slOf 5 l')) p1=_
    rw[absPtA_map,slOf_els,ha',←absPtA_map]
theorem copyExprs_ok:∀(k:Nat) (x:Dat) (g:Glob),SizeOf.sizeOf x<k→HasTy TT 24 x→∀(Qf:OGP),(∀l:List Dat,(∀y∈l,HasTy TT 27 y)→l.length=(elsOf x).length→l.map absEx=(elsOf x).map absEx→Qf (.val (retOf 7 l)) g)→EvF TT 41 [x] g Qf
 |0,x,g,hk,_=>by omega
 |k+1,x,g,hk,hx=>by
  intro Qf hQ
  have ex:=hx.els undExprs
  have exl:=ex.1.1
  refine w41 hx ?_
  refine loopUp (len:=(elsOf x).length) (λi=>∀l:List Dat,l.length=i→(∀y∈l,HasTy TT 27 y)→l.map absEx=((elsOf x).take i).map absEx→L41_3 x l (i:Int) g Qf) ?_ ?_ 0 (Nat.zero_le _) [] rfl (λy h=>by cases h) rfl
  ·intro l h1 h2 h3
   refine w41_3 ?_
   rw[Br_ge]
   rw[List.take_length] at h3
   exact hQ l h2 h1 h3
  ·intro i hi ih l h1 h2 h3
   refine w41_3 ?_
   rw[Br_lt hi,getE_nat hi]
   have hsz:=sizeOf_el hi
   obtain⟨k1,s1,r1,n1,a1,b1,p1,e1,hs1,hr1,t1,u1⟩:=expr_ty (ex.2 _ (List.getElem_mem hi))
   have hab:absEx (elsOf x)[i]=.mk k1 s1 r1 n1 (absExA a1) (absPtA b1) p1:=by rw[e1];rfl
   rw[e1] at hsz⊢
   have hc:=sizeOf_cell (cs:=[.int .i64 k1,.str s1,.str r1,.int .i64 n1,a1,b1,.int .i64 p1]) (c:=a1) (by simp)
   refine⟨inB hi,copyExprs_ok k a1 g (by omega) t1 _ λl' hl' hn' ha'=>?_⟩
   have ta:HasTy TT 24 (slOf 7 l'):=slOf_ty undExprs szExpr (by rw[hn'];exact(t1.els undExprs).1) hl'
   refine⟨slOf 7 l',ta,retOf_ret _ _,copyPats_ok _ b1 g (Nat.lt_succ_self _) u1 _ λm hm hmn hma=>?_⟩
   have tb:HasTy TT 25 (slOf 5 m):=slOf_ty undPats szPat (by rw[hmn];exact(u1.els undPats).1) hm
   refine⟨slOf 5 m,tb,retOf_ret _ _,(ex.1.le (by simp;omega)).fits byExpr,?_⟩
   rw[wrap_nat (by omega)]
   refine ih _ (by simp[h1]) (λy hy=>?_) (take_snoc hi h3 ?_)
   ·rcases List.mem_append.1 hy with hy|hy
    ·exact h2 y hy
    ·simp only[List.mem_singleton] at hy;subst hy;exact ty_expr hs1 hr1 ta tb
   ·rw[hab]
    show Ex'.mk k1 s1 r1 n1 (absExA (slOf 7 l')) (absPtA (slOf 5 m)) p1=_
    rw[absExA_map,slOf_els,ha',←absExA_map,absPtA_map,slOf_els,hma,←absPtA_map]
theorem copyDecls_ok(x:Dat)(g:Glob)(hx:HasTy TT 23 x)(Qf:OGP)(hQ:∀l:List Dat,(∀y∈l,HasTy TT 76 y)→l.length=(elsOf x).length→l.map absDc=(elsOf x).map absDc→Qf (.val (retOf 4 l)) g):EvF TT 36 [x] g Qf:=by
 have ex:=hx.els undDecls
 have exl:=ex.1.1
 refine w36 hx ?_
 refine loopUp (len:=(elsOf x).length) (λi=>∀l:List Dat,l.length=i→(∀y∈l,HasTy TT 76 y)→l.map absDc=((elsOf x).take i).map absDc→L36_3 x l (i:Int) g Qf) ?_ ?_ 0 (Nat.zero_le _) [] rfl (λy h=>by cases h) rfl
 ·intro l h1 h2 h3
  refine w36_3 ?_
  rw[Br_ge]
  rw[List.take_length] at h3
  exact hQ l h2 h1 h3
 ·intro i hi ih l h1 h2 h3
  refine w36_3 ?_
  rw[Br_lt hi,getE_nat hi]
  obtain⟨s1,a1,b1,p1,e1,hs1,ta1,tb1⟩:=decl_ty (ex.2 _ (List.getElem_mem hi))
  have hab:absDc (elsOf x)[i]=⟨s1,(elsOf a1).map strOf,(elsOf b1).map absCn,p1⟩:=by rw[e1];rfl
  rw[e1]
  have ea:=ta1.els undStrs
  have eb:=tb1.els undCons
  have ebl:=eb.1.1
  have tA:HasTy TT 61 (.sl 1 ([]++elsOf a1)):=.sl _ _ _ _ undStrs szStr (by simpa using ea.1) (by simpa using ea.2)
  refine⟨inB hi,(ea.1.le (by simp[fld,nth])).fits byStr,?_⟩
  refine loopUp (len:=(elsOf b1).length) (λj=>∀m:List Dat,m.length=j→(∀y∈m,HasTy TT 91 y)→m.map absCn=((elsOf b1).take j).map absCn→
   L36_9 x l (i:Int) m (j:Int) (.agg [.str s1,.sl 1 ([]++elsOf a1),b1,.int .i64 p1]) g Qf) ?_ ?_ 0 (Nat.zero_le _) [] rfl (λy h=>by cases h) rfl
  ·intro m q1 q2 q3
   refine w36_9 ?_
   rw[show(fld (Dat.agg [.str s1,.sl 1 ([]++elsOf a1),b1,.int .i64 p1]) 2)=b1 from rfl,Br_ge]
   refine⟨(ex.1.le (by simp;omega)).fits byDecl,?_⟩
   rw[wrap_nat (by omega)]
   rw[List.take_length] at q3
   have tB:HasTy TT 74 (slOf 2 m):=slOf_ty undCons szCon (by rw[q1];exact eb.1) q2
   refine ih _ (by simp[h1]) (λy hy=>?_) (take_snoc hi h3 ?_)
   ·rcases List.mem_append.1 hy with hy|hy
    ·exact h2 y hy
    ·simp only[List.mem_singleton] at hy;subst hy;exact ty_decl hs1 tA tB
   ·rw[hab]
    show(⟨s1,(elsOf (.sl 1 ([]++elsOf a1))).map strOf,(elsOf (slOf 2 m)).map absCn,p1⟩:Dc)=_
    rw[slOf_els,q3]
    rfl
  ·intro j hj ihj m q1 q2 q3
   refine w36_9 ?_
   rw[show(fld (Dat.agg [.str s1,.sl 1 ([]++elsOf a1),b1,.int .i64 p1]) 2)=b1 from rfl,Br_lt hj,getE_nat hj]
   obtain⟨t1,f1,d1,ht1,tf1⟩:=con_ty (eb.2 _ (List.getElem_mem hj))
   have hac:absCn (elsOf b1)[j]=⟨t1,absTyA f1⟩:=by rw[d1];rfl
   rw[d1]
   refine⟨inB hj,inB hj,copyTypes_ok _ f1 g (Nat.lt_succ_self _) tf1 _ λl' hl' hn' ha'=>?_⟩
   have tF:HasTy TT 89 (slOf 4 l'):=slOf_ty undTypes szType (by rw[hn'];exact(tf1.els undTypes).1) hl'
   refine⟨slOf 4 l',tF,retOf_ret _ _,(eb.1.le (by simp;omega)).fits byCon,?_⟩
   rw[wrap_nat (by omega)]
   refine ihj _ (by simp[q1]) (λy hy=>?_) (take_snoc hj q3 ?_)
   ·rcases List.mem_append.1 hy with hy|hy
    ·exact q2 y hy
    ·simp only[List.mem_singleton] at hy;subst hy;exact ty_con ht1 tF
   ·rw[hac]
    show(⟨t1,absTyA (slOf 4 l')⟩:Cn)=_
    rw[absTyA_map,slOf_els,ha',←absTyA_map]
theorem copy_ok(x:Dat)(g:Glob)(hx:HasTy TT 29 x)(Qf:OGP)(hQ:∀r,HasTy TT 29 r→absPg r=absPg x→Qf (.val (.d r)) g):EvF TT 23 [x] g Qf:=by
 refine w23 hx ?_
 obtain⟨d1,k1,s1,r1,n1,a1,b1,p1,rfl,hd1,he1⟩:=prog_ty hx
 refine copyDecls_ok d1 g hd1 _ λl hl hn ha=>?_
 have tD:HasTy TT 23 (slOf 4 l):=slOf_ty undDecls szDecl (by rw[hn];exact(hd1.els undDecls).1) hl
 refine⟨slOf 4 l,tD,retOf_ret _ _,copyExprs_ok _ _ g (Nat.lt_succ_self _) (one_expr he1) _ λm hm hmn hma=>?_⟩
 obtain⟨y,rfl⟩:∃y,m=[y]:=by
  match m,hmn with
  |[y],_=>exact⟨y,rfl⟩
 have hy:=hm y (by simp)
 have hya:absEx y=absEx (.agg [.int .i64 k1,.str s1,.str r1,.int .i64 n1,a1,b1,.int .i64 p1]):=by
  have:=hma
  simpa[elsOf,sub] using this
 refine⟨.sl 7 [y],one_expr hy,rfl,⟨Int.le_refl _,by simp[elsOf]⟩,?_⟩
 obtain⟨k2,s2,r2,n2,a2,b2,p2,rfl,hs2,hr2,t2,u2⟩:=expr_ty hy
 refine hQ _ (ty_prog tD (ty_expr hs2 hr2 t2 u2)) ?_
 show(⟨(elsOf (slOf 4 l)).map absDc,absEx (.agg [.int .i64 k2,.str s2,.str r2,.int .i64 n2,a2,b2,.int .i64 p2])⟩:Pg)=⟨(elsOf d1).map absDc,absEx (.agg [.int .i64 k1,.str s1,.str r1,.int .i64 n1,a1,b1,.int .i64 p1])⟩
 rw[slOf_els,ha,hya]
end Go.Proofs.YtgmapdcdmomioaaGreatDoor.Pa
namespace Go.Proofs.YtgmapdcdmomioaaGreatDoor.Pa
open Go Go.Proofs.YtgmapdcdmomioaaGreatDoor.Am
def lo6:List CutI:=[]
theorem w6{x0:Dat}{x1:Dat}{g:Glob}{Qf:OGP}(h0:HasTy TT 29 x0)(h1:HasTy TT 29 x1)
 (h:EvF TT 21 [x0] g (KQ Qf λv g'=>∃b,v=.d (.bool b)∧Br b (EvF TT 15 [] g' (KQ Qf λv g'=>∃b,v=.d (.bool b)∧Qf (.val (.d (.bool b))) g')) (EvF TT 21 [x1] g' (KQ Qf λv g'=>∃b,v=.d (.bool b)∧Br b (EvF TT 15 [] g' (KQ Qf λv g'=>∃b,v=.d (.bool b)∧Qf (.val (.d (.bool b))) g')) (EvF TT 23 [x0] g' (KQ Qf λv g'=>∃x,HasTy TT 29 x∧v=.d x∧EvF TT 23 [x1] g' (KQ Qf λv g'=>∃x_1,HasTy TT 29 x_1∧v=.d x_1∧EvF TT 22 [x,x_1] g' (KQ Qf λv g'=>∃b,v=.d (.bool b)∧EvF TT 18 [x0,x1,.bool false] g' (KQ Qf λv g'=>∃b_1,v=.d (.bool b_1)∧Br (b==b_1) (EvF TT 23 [x0] g' (KQ Qf λv g'=>∃x,HasTy TT 29 x∧v=.d x∧EvF TT 23 [x0] g' (KQ Qf λv g'=>∃x_2,HasTy TT 29 x_2∧v=.d x_2∧EvF TT 22 [x,x_2] g' (KQ Qf λv g'=>∃b,v=.d (.bool b)∧Br b (EvF TT 15 [] g' (KQ Qf λv g'=>∃b,v=.d (.bool b)∧Qf (.val (.d (.bool b))) g')) (Qf (.val (.d (.bool false))) g'))))) (Qf (.val (.d (.bool false))) g')))))))))):
 EvF TT 6 [x0,x1] g Qf:=
 sx_fun (rk:=rk) (fn:=Tryz.f6) (loops:=lo6) (joins:=[]) (n:=100000) (args:=[(29,x0),(29,x1)]) rfl rfl rfl rfl ⟨h0,h1,trivial⟩ (by kernel_rfl) h
end Go.Proofs.YtgmapdcdmomioaaGreatDoor.Pa
namespace Go.Proofs.YtgmapdcdmomioaaGreatDoor.Pa
open Go Go.Proofs.YtgmapdcdmomioaaGreatDoor.Am
end Go.Proofs.YtgmapdcdmomioaaGreatDoor.Pa
