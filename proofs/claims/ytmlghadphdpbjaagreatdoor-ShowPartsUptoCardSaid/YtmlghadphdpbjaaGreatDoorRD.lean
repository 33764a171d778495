/- What functions of the program do, printed by wip/tools/sx/sx.py. The document's comparisons of trees. What functions of the program do, printed by wip/tools/sx/sx.py. The document's comparison of programs; the program's own. The program's own comparison of programs. What functions of the program do, printed by wip/tools/sx/sx.py. The document's copies; what is too large. Nothing of this layer is asked in this seat. The law ParseSame told: it answers true. -/
import Derived.Test.YtmlghadphdpbjaaGreatDoorRC
set_option linter.all false
set_option autoImplicit false
set_option maxRecDepth 100000
namespace Go.Proofs.YtmlghadphdpbjaaGreatDoor.Pa
open Go Go.Proofs.YtmlghadphdpbjaaGreatDoor.Am
end Go.Proofs.YtmlghadphdpbjaaGreatDoor.Pa
namespace Go.Proofs.YtmlghadphdpbjaaGreatDoor.Pa
open Go Go.Proofs.YtmlghadphdpbjaaGreatDoor.Am
end Go.Proofs.YtmlghadphdpbjaaGreatDoor.Pa
namespace Go.Proofs.YtmlghadphdpbjaaGreatDoor.Pa
open Go Go.Proofs.YtmlghadphdpbjaaGreatDoor.Am
end Go.Proofs.YtmlghadphdpbjaaGreatDoor.Pa
namespace Go.Proofs.YtmlghadphdpbjaaGreatDoor.Pa
open Go Go.Proofs.YtmlghadphdpbjaaGreatDoor.Am
theorem len_le{x:Dat}{t u:TypeId}(hu:TT.und t=some (.slice u))(hx:HasTy TT t x):(elsOf x).length≤2^40:=(hx.els hu).1.1
theorem one_expr{x:Dat}(hx:HasTy TT 25 x):HasTy TT 22 (.sl 7 [x]):=
 .sl _ _ _ _ undExprs (by kernel_rfl) ⟨by simp,λb hb=>by
  have:TT.bytes 25=some 104:=by kernel_rfl
  rw[this] at hb;cases hb;simp⟩ (by simpa using hx)
end Go.Proofs.YtmlghadphdpbjaaGreatDoor.Pa
namespace Go.Proofs.YtmlghadphdpbjaaGreatDoor.Pa
open Go Go.Proofs.YtmlghadphdpbjaaGreatDoor.Am
end Go.Proofs.YtmlghadphdpbjaaGreatDoor.Pa
namespace Go.Proofs.YtmlghadphdpbjaaGreatDoor.Pa
open Go Go.Proofs.YtmlghadphdpbjaaGreatDoor.Am
def L34_3(x0:Dat)(l3:List Dat)(n4:Int)(g:Glob)(Qf:OGP):Prop:=CutP TT Tryz.f34 [1,1,0,1,0] Qf (mkC TT 34 Tryz.f34 1 [(0,.v 26 (x0)),(3,.acc [(23,0)] 26 4 l3),(4,.v 3 (.int .i64 n4))] [] g)
def lo34:List CutI:=[⟨3,[(0,.keep),(3,.acc [23]),(4,.keep)],[]⟩]
theorem w34{x0:Dat}{g:Glob}{Qf:OGP}(h0:HasTy TT 26 x0)
 (h:L34_3 x0 [] 0 g Qf):
 EvF TT 34 [x0] g Qf:=
 sx_fun (rk:=rk) (fn:=Tryz.f34) (loops:=lo34) (joins:=[]) (n:=100000) (args:=[(26,x0)]) rfl rfl rfl rfl ⟨h0,trivial⟩ (by kernel_rfl) h
theorem w34_3{x0:Dat}{l3:List Dat}{n4:Int}{g:Glob}{Qf:OGP}
 (h:Br (decide (n4<(↑(elsOf x0).length:Int))) (InB n4 (elsOf x0).length∧EvF TT 34 [fld (getE (elsOf x0) n4) 3] g (KQ Qf λv g'=>∃x,HasTy TT 26 x∧RetV v x∧Fits (l3.length+[Dat.agg [.int .i64 (intOf (fld (getE (elsOf x0) n4) 0)),.str (strOf (fld (getE (elsOf x0) n4) 1)),.int .i64 (intOf (fld (getE (elsOf x0) n4) 2)),x]].length) 56∧L34_3 x0 (l3++[Dat.agg [.int .i64 (intOf (fld (getE (elsOf x0) n4) 0)),.str (strOf (fld (getE (elsOf x0) n4) 1)),.int .i64 (intOf (fld (getE (elsOf x0) n4) 2)),x]]) (IntKind.i64.wrap (n4+1)) g' Qf)) (Qf (.val (retOf 4 l3)) g)):
 L34_3 x0 l3 n4 g Qf:=sx_cut (rk:=rk) (loops:=lo34) (joins:=[]) (n:=100000) (by kernel_rfl) h
def L29_3(x0:Dat)(l3:List Dat)(n4:Int)(g:Glob)(Qf:OGP):Prop:=CutP TT Tryz.f29 [1,1,0,1,0] Qf (mkC TT 29 Tryz.f29 1 [(0,.v 23 (x0)),(3,.acc [(23,0)] 23 5 l3),(4,.v 3 (.int .i64 n4))] [] g)
def lo29:List CutI:=[⟨3,[(0,.keep),(3,.acc [23]),(4,.keep)],[]⟩]
theorem w29{x0:Dat}{g:Glob}{Qf:OGP}(h0:HasTy TT 23 x0)
 (h:L29_3 x0 [] 0 g Qf):
 EvF TT 29 [x0] g Qf:=
 sx_fun (rk:=rk) (fn:=Tryz.f29) (loops:=lo29) (joins:=[]) (n:=100000) (args:=[(23,x0)]) rfl rfl rfl rfl ⟨h0,trivial⟩ (by kernel_rfl) h
theorem w29_3{x0:Dat}{l3:List Dat}{n4:Int}{g:Glob}{Qf:OGP}
 (h:Br (decide (n4<(↑(elsOf x0).length:Int))) (InB n4 (elsOf x0).length∧EvF TT 29 [fld (getE (elsOf x0) n4) 3] g (KQ Qf λv g'=>∃x,HasTy TT 23 x∧RetV v x∧Fits (l3.length+[Dat.agg [.int .i64 (intOf (fld (getE (elsOf x0) n4) 0)),.str (strOf (fld (getE (elsOf x0) n4) 1)),.int .i64 (intOf (fld (getE (elsOf x0) n4) 2)),x,.int .i64 (intOf (fld (getE (elsOf x0) n4) 4))]].length) 64∧L29_3 x0 (l3++[Dat.agg [.int .i64 (intOf (fld (getE (elsOf x0) n4) 0)),.str (strOf (fld (getE (elsOf x0) n4) 1)),.int .i64 (intOf (fld (getE (elsOf x0) n4) 2)),x,.int .i64 (intOf (fld (getE (elsOf x0) n4) 4))]]) (IntKind.i64.wrap (n4+1)) g' Qf)) (Qf (.val (retOf 5 l3)) g)):
 L29_3 x0 l3 n4 g Qf:=sx_cut (rk:=rk) (loops:=lo29) (joins:=[]) (n:=100000) (by kernel_rfl) h
def L12_3(x0:Dat)(l3:List Dat)(n4:Int)(g:Glob)(Qf:OGP):Prop:=CutP TT Tryz.f12 [1,1,0,1,0] Qf (mkC TT 12 Tryz.f12 1 [(0,.v 22 (x0)),(3,.acc [(27,0)] 22 7 l3),(4,.v 3 (.int .i64 n4))] [] g)
def lo12:List CutI:=[⟨3,[(0,.keep),(3,.acc [27]),(4,.keep)],[]⟩]
theorem w12{x0:Dat}{g:Glob}{Qf:OGP}(h0:HasTy TT 22 x0)
 (h:L12_3 x0 [] 0 g Qf):
 EvF TT 12 [x0] g Qf:=
 sx_fun (rk:=rk) (fn:=Tryz.f12) (loops:=lo12) (joins:=[]) (n:=100000) (args:=[(22,x0)]) rfl rfl rfl rfl ⟨h0,trivial⟩ (by kernel_rfl) h
theorem w12_3{x0:Dat}{l3:List Dat}{n4:Int}{g:Glob}{Qf:OGP}
 (h:Br (decide (n4<(↑(elsOf x0).length:Int))) (InB n4 (elsOf x0).length∧EvF TT 12 [fld (getE (elsOf x0) n4) 4] g (KQ Qf λv g'=>∃x,HasTy TT 22 x∧RetV v x∧EvF TT 29 [fld (getE (elsOf x0) n4) 5] g' (KQ Qf λv g'=>∃x_1,HasTy TT 23 x_1∧RetV v x_1∧Fits (l3.length+[Dat.agg [.int .i64 (intOf (fld (getE (elsOf x0) n4) 0)),.str (strOf (fld (getE (elsOf x0) n4) 1)),.str (strOf (fld (getE (elsOf x0) n4) 2)),.int .i64 (intOf (fld (getE (elsOf x0) n4) 3)),x,x_1,.int .i64 (intOf (fld (getE (elsOf x0) n4) 6))]].length) 104∧L12_3 x0 (l3++[Dat.agg [.int .i64 (intOf (fld (getE (elsOf x0) n4) 0)),.str (strOf (fld (getE (elsOf x0) n4) 1)),.str (strOf (fld (getE (elsOf x0) n4) 2)),.int .i64 (intOf (fld (getE (elsOf x0) n4) 3)),x,x_1,.int .i64 (intOf (fld (getE (elsOf x0) n4) 6))]]) (IntKind.i64.wrap (n4+1)) g' Qf))) (Qf (.val (retOf 7 l3)) g)):
 L12_3 x0 l3 n4 g Qf:=sx_cut (rk:=rk) (loops:=lo12) (joins:=[]) (n:=100000) (by kernel_rfl) h
def L25_5(n1:Int)(n2:Int)(n7:Int)(y3:Dat)(g:Glob)(Qf:OGP):Prop:=CutP TT Tryz.f25 [1,1,1,0,1,0] Qf (mkC TT 25 Tryz.f25 3 [(1,.v 3 (.int .i64 n1)),(2,.v 3 (.int .i64 n2)),(3,.loc 3 0 0),(7,.v 3 (.int .i64 n7))] [(3,.whole 28 y3)] g)
def lo25:List CutI:=[⟨5,[(1,.keep),(2,.keep),(3,.keep),(7,.keep)],[(3,.whole 28)]⟩]
theorem w25{x0:Dat}{n1:Int}{n2:Int}{g:Glob}{Qf:OGP}(h0:HasTy TT 28 x0)
 (h:NeZ 10∧Br (decide (20000<IntKind.i64.wrap (n2+IntKind.i64.wrap (1+IntKind.i64.wrap ((↑(elsOf (fld x0 3)).length:Int).tdiv 10))))) (Qf (.val (.d (.int .i64 (-1)))) g) (Br (decide (600<n1)) (Qf (.val (.d (.int .i64 (-1)))) g) (L25_5 n1 (IntKind.i64.wrap (n2+IntKind.i64.wrap (1+IntKind.i64.wrap ((↑(elsOf (fld x0 3)).length:Int).tdiv 10)))) 0 x0 g Qf))):
 EvF TT 25 [x0,.int .i64 n1,.int .i64 n2] g Qf:=
 sx_fun (rk:=rk) (fn:=Tryz.f25) (loops:=lo25) (joins:=[]) (n:=100000) (args:=[(28,x0),(3,.int .i64 n1),(3,.int .i64 n2)]) rfl rfl rfl rfl ⟨h0,tyInt rfl,tyInt rfl,trivial⟩ (by kernel_rfl) h
theorem w25_5{n1:Int}{n2:Int}{n7:Int}{y3:Dat}{g:Glob}{Qf:OGP}
 (h:Br (decide (n7<(↑(elsOf (fld y3 3)).length:Int))) (Br (decide (0≤n2)) (InB n7 (elsOf (fld y3 3)).length∧EvF TT 25 [getE (elsOf (fld y3 3)) n7,.int .i64 (IntKind.i64.wrap (n1+1)),.int .i64 n2] g (KQ Qf λv g'=>∃n,v=.d (.int .i64 n)∧L25_5 n1 n (IntKind.i64.wrap (n7+1)) y3 g' Qf)) (Qf (.val (.d (.int .i64 n2))) g)) (Qf (.val (.d (.int .i64 n2))) g)):
 L25_5 n1 n2 n7 y3 g Qf:=sx_cut (rk:=rk) (loops:=lo25) (joins:=[]) (n:=100000) (by kernel_rfl) h
def L47_5(n1:Int)(n2:Int)(n7:Int)(y3:Dat)(g:Glob)(Qf:OGP):Prop:=CutP TT Tryz.f47 [1,1,1,0,1,0] Qf (mkC TT 47 Tryz.f47 3 [(1,.v 3 (.int .i64 n1)),(2,.v 3 (.int .i64 n2)),(3,.loc 3 0 0),(7,.v 3 (.int .i64 n7))] [(3,.whole 94 y3)] g)
def lo47:List CutI:=[⟨5,[(1,.keep),(2,.keep),(3,.keep),(7,.keep)],[(3,.whole 94)]⟩]
theorem w47{x0:Dat}{n1:Int}{n2:Int}{g:Glob}{Qf:OGP}(h0:HasTy TT 94 x0)
 (h:NeZ 10∧Br (decide (20000<IntKind.i64.wrap (n2+IntKind.i64.wrap (1+IntKind.i64.wrap ((↑(elsOf (fld x0 3)).length:Int).tdiv 10))))) (Qf (.val (.d (.int .i64 (-1)))) g) (Br (decide (600<n1)) (Qf (.val (.d (.int .i64 (-1)))) g) (L47_5 n1 (IntKind.i64.wrap (n2+IntKind.i64.wrap (1+IntKind.i64.wrap ((↑(elsOf (fld x0 3)).length:Int).tdiv 10)))) 0 x0 g Qf))):
 EvF TT 47 [x0,.int .i64 n1,.int .i64 n2] g Qf:=
 sx_fun (rk:=rk) (fn:=Tryz.f47) (loops:=lo47) (joins:=[]) (n:=100000) (args:=[(94,x0),(3,.int .i64 n1),(3,.int .i64 n2)]) rfl rfl rfl rfl ⟨h0,tyInt rfl,tyInt rfl,trivial⟩ (by kernel_rfl) h
theorem w47_5{n1:Int}{n2:Int}{n7:Int}{y3:Dat}{g:Glob}{Qf:OGP}
 (h:Br (decide (n7<(↑(elsOf (fld y3 3)).length:Int))) (Br (decide (0≤n2)) (InB n7 (elsOf (fld y3 3)).length∧EvF TT 47 [getE (elsOf (fld y3 3)) n7,.int .i64 (IntKind.i64.wrap (n1+1)),.int .i64 n2] g (KQ Qf λv g'=>∃n,v=.d (.int .i64 n)∧L47_5 n1 n (IntKind.i64.wrap (n7+1)) y3 g' Qf)) (Qf (.val (.d (.int .i64 n2))) g)) (Qf (.val (.d (.int .i64 n2))) g)):
 L47_5 n1 n2 n7 y3 g Qf:=sx_cut (rk:=rk) (loops:=lo47) (joins:=[]) (n:=100000) (by kernel_rfl) h
def L24_5(n1:Int)(n2:Int)(n7:Int)(y3:Dat)(g:Glob)(Qf:OGP):Prop:=CutP TT Tryz.f24 [1,1,1,0,1,0] Qf (mkC TT 24 Tryz.f24 3 [(1,.v 3 (.int .i64 n1)),(2,.v 3 (.int .i64 n2)),(3,.loc 3 0 0),(7,.v 3 (.int .i64 n7))] [(3,.whole 25 y3)] g)
def L24_9(n1:Int)(n2:Int)(n8:Int)(y3:Dat)(g:Glob)(Qf:OGP):Prop:=CutP TT Tryz.f24 [1,1,1,1,0,1,0] Qf (mkC TT 24 Tryz.f24 3 [(1,.v 3 (.int .i64 n1)),(2,.v 3 (.int .i64 n2)),(3,.loc 3 0 0),(8,.v 3 (.int .i64 n8))] [(3,.whole 25 y3)] g)
def lo24:List CutI:=[⟨5,[(1,.keep),(2,.keep),(3,.keep),(7,.keep)],[(3,.whole 25)]⟩,⟨9,[(1,.keep),(2,.keep),(3,.keep),(8,.keep)],[(3,.whole 25)]⟩]
theorem w24{x0:Dat}{n1:Int}{n2:Int}{g:Glob}{Qf:OGP}(h0:HasTy TT 25 x0)
 (h:NeZ 10∧NeZ 10∧Br (decide (20000<IntKind.i64.wrap (n2+IntKind.i64.wrap (IntKind.i64.wrap (1+IntKind.i64.wrap ((↑(elsOf (fld x0 4)).length:Int).tdiv 10))+IntKind.i64.wrap ((↑(elsOf (fld x0 5)).length:Int).tdiv 10))))) (Qf (.val (.d (.int .i64 (-1)))) g) (Br (decide (600<n1)) (Qf (.val (.d (.int .i64 (-1)))) g) (L24_5 n1 (IntKind.i64.wrap (n2+IntKind.i64.wrap (IntKind.i64.wrap (1+IntKind.i64.wrap ((↑(elsOf (fld x0 4)).length:Int).tdiv 10))+IntKind.i64.wrap ((↑(elsOf (fld x0 5)).length:Int).tdiv 10)))) 0 x0 g Qf))):
 EvF TT 24 [x0,.int .i64 n1,.int .i64 n2] g Qf:=
 sx_fun (rk:=rk) (fn:=Tryz.f24) (loops:=lo24) (joins:=[]) (n:=100000) (args:=[(25,x0),(3,.int .i64 n1),(3,.int .i64 n2)]) rfl rfl rfl rfl ⟨h0,tyInt rfl,tyInt rfl,trivial⟩ (by kernel_rfl) h
theorem w24_5{n1:Int}{n2:Int}{n7:Int}{y3:Dat}{g:Glob}{Qf:OGP}
 (h:Br (decide (n7<(↑(elsOf (fld y3 5)).length:Int))) (Br (decide (0≤n2)) (InB n7 (elsOf (fld y3 5)).length∧EvF TT 47 [getE (elsOf (fld y3 5)) n7,.int .i64 (IntKind.i64.wrap (n1+1)),.int .i64 n2] g (KQ Qf λv g'=>∃n,v=.d (.int .i64 n)∧L24_5 n1 n (IntKind.i64.wrap (n7+1)) y3 g' Qf)) (L24_9 n1 n2 0 y3 g Qf)) (L24_9 n1 n2 0 y3 g Qf)):
 L24_5 n1 n2 n7 y3 g Qf:=sx_cut (rk:=rk) (loops:=lo24) (joins:=[]) (n:=100000) (by kernel_rfl) h
theorem w24_9{n1:Int}{n2:Int}{n8:Int}{y3:Dat}{g:Glob}{Qf:OGP}
 (h:Br (decide (n8<(↑(elsOf (fld y3 4)).length:Int))) (Br (decide (0≤n2)) (InB n8 (elsOf (fld y3 4)).length∧EvF TT 24 [getE (elsOf (fld y3 4)) n8,.int .i64 (IntKind.i64.wrap (n1+1)),.int .i64 n2] g (KQ Qf λv g'=>∃n,v=.d (.int .i64 n)∧L24_9 n1 n (IntKind.i64.wrap (n8+1)) y3 g' Qf)) (Qf (.val (.d (.int .i64 n2))) g)) (Qf (.val (.d (.int .i64 n2))) g)):
 L24_9 n1 n2 n8 y3 g Qf:=sx_cut (rk:=rk) (loops:=lo24) (joins:=[]) (n:=100000) (by kernel_rfl) h
def lo8:List CutI:=[]
theorem w8{x0:Dat}{g:Glob}{Qf:OGP}(h0:HasTy TT 25 x0)
 (h:EvF TT 24 [x0,.int .i64 0,.int .i64 0] g (KQ Qf λv g'=>∃n,v=.d (.int .i64 n)∧Qf (.val (.d (.bool (decide (n<0))))) g')):
 EvF TT 8 [x0] g Qf:=
 sx_fun (rk:=rk) (fn:=Tryz.f8) (loops:=lo8) (joins:=[]) (n:=100000) (args:=[(25,x0)]) rfl rfl rfl rfl ⟨h0,trivial⟩ (by kernel_rfl) h
end Go.Proofs.YtmlghadphdpbjaaGreatDoor.Pa
namespace Go.Proofs.YtmlghadphdpbjaaGreatDoor.Pa
open Go Go.Proofs.YtmlghadphdpbjaaGreatDoor.Am
theorem retOf_ret(m:Nat)(l:List Dat):RetV (retOf m l) (slOf m l):=by cases l<;>rfl
theorem byType:TT.bytes 28=some 56:=by kernel_rfl
theorem byPat:TT.bytes 94=some 64:=by kernel_rfl
theorem byExpr:TT.bytes 25=some 104:=by kernel_rfl
theorem byCon:TT.bytes 52=some 40:=by kernel_rfl
theorem byDecl:TT.bytes 50=some 72:=by kernel_rfl
theorem byStr:TT.bytes 9=some 16:=by kernel_rfl
theorem szType:TT.size 28=some 4:=by kernel_rfl
theorem szPat:TT.size 94=some 5:=by kernel_rfl
theorem szExpr:TT.size 25=some 7:=by kernel_rfl
theorem szCon:TT.size 52=some 2:=by kernel_rfl
theorem szDecl:TT.size 50=some 4:=by kernel_rfl
theorem szStr:TT.size 9=some 1:=by kernel_rfl
theorem take_snoc{α β:Type}{f:α→β}{xs:List α}{ys:List α}{i:Nat}{y:α}(hi:i<xs.length)(h:ys.map f=(xs.take i).map f)(hy:f y=f xs[i]):(ys++[y]).map f=(xs.take (i+1)).map f:=by
 rw[List.map_append,h,List.take_succ_eq_append_getElem hi,List.map_append,List.map_singleton,List.map_singleton,hy]
theorem copyTypes_ok:∀(k:Nat) (x:Dat) (g:Glob),SizeOf.sizeOf x<k→HasTy TT 26 x→∀(Qf:OGP),(∀l:List Dat,(∀y∈l,HasTy TT 28 y)→l.length=(elsOf x).length→l.map absTy=(elsOf x).map absTy→Qf (.val (retOf 4 l)) g)→EvF TT 34 [x] g Qf
 |0,x,g,hk,_=>by omega
 |k+1,x,g,hk,hx=>by
  intro Qf hQ
  have ex:=hx.els undTypes
  have exl:=ex.1.1
  refine w34 hx ?_
  refine loopUp (len:=(elsOf x).length) (λi=>∀l:List Dat,l.length=i→(∀y∈l,HasTy TT 28 y)→l.map absTy=((elsOf x).take i).map absTy→L34_3 x l (i:Int) g Qf) ?_ ?_ 0 (Nat.zero_le _) [] rfl (λy h=>by cases h) rfl
  ·intro l h1 h2 h3
   refine w34_3 ?_
   rw[Br_ge]
   rw[List.take_length] at h3
   exact hQ l h2 h1 h3
  ·intro i hi ih l h1 h2 h3
   refine w34_3 ?_
   rw[Br_lt hi,getE_nat hi]
   have hsz:=sizeOf_el hi
   obtain⟨k1,s1,n1,a1,e1,hs1,t1⟩:=type_ty (ex.2 _ (List.getElem_mem hi))
   have hab:absTy (elsOf x)[i]=.mk k1 s1 n1 (absTyA a1):=by rw[e1];rfl
   rw[e1] at hsz⊢
   have hc:=sizeOf_cell (cs:=[.int .i64 k1,.str s1,.int .i64 n1,a1]) (c:=a1) (by simp)
   refine⟨inB hi,copyTypes_ok k a1 g (by omega) t1 _ λl' hl' hn' ha'=>?_⟩
   have ta:HasTy TT 26 (slOf 4 l'):=slOf_ty undTypes szType (by rw[hn'];exact(t1.els undTypes).1) hl'
   refine⟨slOf 4 l',ta,retOf_ret _ _,(ex.1.le (by simp;omega)).fits byType,?_⟩
   rw[wrap_nat (by omega)]
   refine ih _ (by simp[h1]) (λy hy=>?_) (take_snoc hi h3 ?_)
   ·rcases List.mem_append.1 hy with hy|hy
    ·exact h2 y hy
    ·simp only[List.mem_singleton] at hy;subst hy;exact ty_type hs1 ta
   ·rw[hab]
    show Ty.mk k1 s1 n1 (absTyA (slOf 4 l'))=_
    rw[absTyA_map,slOf_els,ha',←absTyA_map]
theorem copyPats_ok:∀(k:Nat) (x:Dat) (g:Glob),SizeOf.sizeOf x<k→HasTy TT 23 x→∀(Qf:OGP),(∀l:List Dat,(∀y∈l,HasTy TT 94 y)→l.length=(elsOf x).length→l.map absPt=(elsOf x).map absPt→Qf (.val (retOf 5 l)) g)→EvF TT 29 [x] g Qf
 |0,x,g,hk,_=>by omega
 |k+1,x,g,hk,hx=>by
  intro Qf hQ
  have ex:=hx.els undPats
  have exl:=ex.1.1
  refine w29 hx ?_
  refine loopUp (len:=(elsOf x).length) (λi=>∀l:List Dat,l.length=i→(∀y∈l,HasTy TT 94 y)→l.map absPt=((elsOf x).take i).map absPt→L29_3 x l (i:Int) g Qf) ?_ ?_ 0 (Nat.zero_le _) [] rfl (λy h=>by cases h) rfl
  ·intro l h1 h2 h3
   refine w29_3 ?_
   rw[Br_ge]
   rw[List.take_length] at h3
   exact hQ l h2 h1 h3
  ·intro i hi ih l h1 h2 h3
   refine w29_3 ?_
   rw[Br_lt hi,getE_nat hi]
   have hsz:=sizeOf_el hi
   obtain⟨k1,s1,n1,a1,p1,e1,hs1,t1⟩:=pat_ty (ex.2 _ (List.getElem_mem hi))
   have hab:absPt (elsOf x)[i]=.mk k1 s1 n1 (absPtA a1) p1:=by rw[e1];rfl
   rw[e1] at hsz⊢
   have hc:=sizeOf_cell (cs:=[.int .i64 k1,.str s1,.int .i64 n1,a1,.int .i64 p1]) (c:=a1) (by simp)
   refine⟨inB hi,copyPats_ok k a1 g (by omega) t1 _ λl' hl' hn' ha'=>?_⟩
   have ta:HasTy TT 23 (slOf 5 l'):=slOf_ty undPats szPat (by rw[hn'];exact(t1.els undPats).1) hl'
   refine⟨slOf 5 l',ta,retOf_ret _ _,(ex.1.le (by simp;omega)).fits byPat,?_⟩
   rw[wrap_nat (by omega)]
   refine ih _ (by simp[h1]) (λy hy=>?_) (take_snoc hi h3 ?_)
   ·rcases List.mem_append.1 hy with hy|hy
    ·exact h2 y hy
    ·simp only[List.mem_singleton] at hy;subst hy;exact ty_pat hs1 ta
   ·rw[hab]
    show Pt.mk k1 s1 n1 (absPtA (slOf 5 l')) p1=_
    rw[absPtA_map,slOf_els,ha',←absPtA_map]
theorem copyExprs_ok:∀(k:Nat) (x:Dat) (g:Glob),SizeOf.sizeOf x<k→HasTy TT 22 x→∀(Qf:OGP),(∀l:List Dat,(∀y∈l,HasTy TT 25 y)→l.length=(elsOf x).length→l.map absEx=(elsOf x).map absEx→Qf (.val (retOf 7 l)) g)→EvF TT 12 [x] g Qf
 |0,x,g,hk,_=>by omega
 |k+1,x,g,hk,hx=>by
  intro Qf hQ
  have ex:=hx.els undExprs
  have exl:=ex.1.1
  refine w12 hx ?_
  refine loopUp (len:=(elsOf x).length) (λi=>∀l:List Dat,l.length=i→(∀y∈l,HasTy TT 25 y)→l.map absEx=((elsOf x).take i).map absEx→L12_3 x l (i:Int) g Qf) ?_ ?_ 0 (Nat.zero_le _) [] rfl (λy h=>by cases h) rfl
  ·intro l h1 h2 h3
   refine w12_3 ?_
   rw[Br_ge]
   rw[List.take_length] at h3
   exact hQ l h2 h1 h3
  ·intro i hi ih l h1 h2 h3
   refine w12_3 ?_
   rw[Br_lt hi,getE_nat hi]
   have hsz:=sizeOf_el hi
   obtain⟨k1,s1,r1,n1,a1,b1,p1,e1,hs1,hr1,t1,u1⟩:=expr_ty (ex.2 _ (List.getElem_mem hi))
   have hab:absEx (elsOf x)[i]=.mk k1 s1 r1 n1 (absExA a1) (absPtA b1) p1:=by rw[e1];rfl
   rw[e1] at hsz⊢
   have hc:=sizeOf_cell (cs:=[.int .i64 k1,.str s1,.str r1,.int .i64 n1,a1,b1,.int .i64 p1]) (c:=a1) (by simp)
   refine⟨inB hi,copyExprs_ok k a1 g (by omega) t1 _ λl' hl' hn' ha'=>?_⟩
   have ta:HasTy TT 22 (slOf 7 l'):=slOf_ty undExprs szExpr (by rw[hn'];exact(t1.els undExprs).1) hl'
   refine⟨slOf 7 l',ta,retOf_ret _ _,copyPats_ok _ b1 g (Nat.lt_succ_self _) u1 _ λm hm hmn hma=>?_⟩
   have tb:HasTy TT 23 (slOf 5 m):=slOf_ty undPats szPat (by rw[hmn];exact(u1.els undPats).1) hm
   refine⟨slOf 5 m,tb,retOf_ret _ _,(ex.1.le (by simp;omega)).fits byExpr,?_⟩
   rw[wrap_nat (by omega)]
   refine ih _ (by simp[h1]) (λy hy=>?_) (take_snoc hi h3 ?_)
   ·rcases List.mem_append.1 hy with hy|hy
    ·exact h2 y hy
    ·simp only[List.mem_singleton] at hy;subst hy;exact ty_expr hs1 hr1 ta tb
   ·rw[hab]
    show Ex'.mk k1 s1 r1 n1 (absExA (slOf 7 l')) (absPtA (slOf 5 m)) p1=_
    rw[absExA_map,slOf_els,ha',←absExA_map,absPtA_map,slOf_els,hma,←absPtA_map]
end Go.Proofs.YtmlghadphdpbjaaGreatDoor.Pa
namespace Go.Proofs.YtmlghadphdpbjaaGreatDoor.Pa
open Go Go.Proofs.YtmlghadphdpbjaaGreatDoor.Am
end Go.Proofs.YtmlghadphdpbjaaGreatDoor.Pa
