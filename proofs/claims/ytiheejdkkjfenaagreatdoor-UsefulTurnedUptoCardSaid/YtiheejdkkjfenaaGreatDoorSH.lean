/- What functions of the program do, printed by wip/tools/sx/sx.py. Useful: which patterns may be: the program's test. Useful: the program's Useful, Exhaustive. -/
import Derived.Test.YtiheejdkkjfenaaGreatDoorSG
set_option linter.all false
set_option autoImplicit false
set_option maxRecDepth 100000
namespace Go.Proofs.YtiheejdkkjfenaaGreatDoor.Pa
open Go Go.Proofs.YtiheejdkkjfenaaGreatDoor.Am
def L74_3(n1:Int)(n5:Int)(y2:Dat)(g:Glob)(Qf:OGP):Prop:=CutP TT Tryz.f74 [1,1,0,1,0] Qf (mkC TT 74 Tryz.f74 2 [(1,.v 3 (.int .i64 n1)),(2,.loc 2 0 0),(5,.v 3 (.int .i64 n5))] [(2,.whole 52 y2)] g)
def lo74:List CutI:=[⟨3,[(1,.keep),(2,.keep),(5,.keep)],[(2,.whole 52)]⟩]
theorem w74{x0:Dat}{n1:Int}{g:Glob}{Qf:OGP}(h0:HasTy TT 52 x0)
 (h:L74_3 (IntKind.i64.wrap (n1-1)) 0 x0 g Qf):
 EvF TT 74 [x0,.int .i64 n1] g Qf:=
 sx_fun (rk:=rk) (fn:=Tryz.f74) (loops:=lo74) (joins:=[]) (n:=100000) (args:=[(52,x0),(3,.int .i64 n1)]) rfl rfl rfl rfl ⟨h0,tyInt rfl,trivial⟩ (by kernel_rfl) h
theorem w74_3{n1:Int}{n5:Int}{y2:Dat}{g:Glob}{Qf:OGP}
 (h:Br (decide (n5<(↑(elsOf (fld y2 3)).length:Int))) (Br (decide (0≤n1)) (InB n5 (elsOf (fld y2 3)).length∧EvF TT 74 [getE (elsOf (fld y2 3)) n5,.int .i64 n1] g (KQ Qf λv g'=>∃n,v=.d (.int .i64 n)∧L74_3 n (IntKind.i64.wrap (n5+1)) y2 g' Qf)) (Qf (.val (.d (.int .i64 n1))) g)) (Qf (.val (.d (.int .i64 n1))) g)):
 L74_3 n1 n5 y2 g Qf:=sx_cut (rk:=rk) (loops:=lo74) (joins:=[]) (n:=100000) (by kernel_rfl) h
def lo75:List CutI:=[]
theorem w75{x0:Dat}{f1:FuncId}{c1:List Dat}{g:Glob}{Qf:OGP}(h0:HasTy TT 86 x0)
 (h:EvF TT 122 [x0,.clo f1 c1] g (KQ Qf λv g'=>∃n,v=.d (.int .i64 n)∧Qf (.val (.d (.bool (decide (0≤n))))) g')):
 EvF TT 75 [x0,.clo f1 c1] g Qf:=
 sx_fun (rk:=rk) (fn:=Tryz.f75) (loops:=lo75) (joins:=[]) (n:=100000) (args:=[(86,x0),(128,.clo f1 c1)]) rfl rfl rfl rfl ⟨h0,tyClo rfl,trivial⟩ (by kernel_rfl) h
def L122_2(x0:Dat)(f1:FuncId)(c1:List Dat)(n7:Int)(n8:Int)(g:Glob)(Qf:OGP):Prop:=CutP TT Tryz.f122 [1,0,1,0] Qf (mkC TT 122 Tryz.f122 2 [(0,.v 86 (x0)),(1,.v 128 (.clo f1 c1)),(7,.v 3 (.int .i64 n7)),(8,.v 3 (.int .i64 n8))] [] g)
def lo122:List CutI:=[⟨2,[(0,.keep),(1,.keep),(7,.keep),(8,.keep)],[]⟩]
theorem w122{x0:Dat}{f1:FuncId}{c1:List Dat}{g:Glob}{Qf:OGP}(h0:HasTy TT 86 x0)
 (h:L122_2 x0 f1 c1 (↑(elsOf x0).length:Int) 0 g Qf):
 EvF TT 122 [x0,.clo f1 c1] g Qf:=
 sx_fun (rk:=rk) (fn:=Tryz.f122) (loops:=lo122) (joins:=[]) (n:=100000) (args:=[(86,x0),(128,.clo f1 c1)]) rfl rfl rfl rfl ⟨h0,tyClo rfl,trivial⟩ (by kernel_rfl) h
theorem w122_2{x0:Dat}{f1:FuncId}{c1:List Dat}{n7:Int}{n8:Int}{g:Glob}{Qf:OGP}
 (h:Br (decide (n8<n7)) (InB n8 (elsOf x0).length∧EvF TT f1 (fld (getE (elsOf x0) n8) 0::c1) g (KQ Qf λv g'=>∃b,v=.d (.bool b)∧Br b (Qf (.val (.d (.int .i64 n8))) g') (L122_2 x0 f1 c1 n7 (IntKind.i64.wrap (n8+1)) g' Qf))) (Qf (.val (.d (.int .i64 (-1)))) g)):
 L122_2 x0 f1 c1 n7 n8 g Qf:=sx_cut (rk:=rk) (loops:=lo122) (joins:=[]) (n:=100000) (by kernel_rfl) h
def lo76:List CutI:=[]
theorem w76{x0:Dat}{p1:Nat}{g:Glob}{Qf:OGP}(h0:HasTy TT 24 x0)
 (h:EvF TT 77 [x0,.clo 78 [.ptr (some (p1,0))]] g (KQ Qf λv g'=>∃b,v=.d (.bool b)∧Qf (.val (.d (.bool b))) g')):
 EvF TT 76 [x0,.ptr (some (p1,0))] g Qf:=
 sx_fun (rk:=rk) (fn:=Tryz.f76) (loops:=lo76) (joins:=[]) (n:=100000) (args:=[(24,x0),(0,.ptr (some (p1,0)))]) rfl rfl rfl rfl ⟨h0,tyPtr0 rfl,trivial⟩ (by kernel_rfl) h
def lo78:List CutI:=[]
theorem w78{x0:Dat}{p1:Nat}{g:Glob}{Qf:OGP}(h0:HasTy TT 52 x0)
 (h:∃x,HasTy TT 22 x∧GOk TT 22 g p1 0 x∧EvF TT 79 [x,x0,.int .i64 1] g (KQ Qf λv g'=>∃b,v=.d (.bool b)∧Qf (.val (.d (.bool !b))) g')):
 EvF TT 78 [x0,.ptr (some (p1,0))] g Qf:=
 sx_fun (rk:=rk) (fn:=Tryz.f78) (loops:=lo78) (joins:=[]) (n:=100000) (args:=[(52,x0),(0,.ptr (some (p1,0)))]) rfl rfl rfl rfl ⟨h0,tyPtr0 rfl,trivial⟩ (by kernel_rfl) h
def lo79:List CutI:=[]
theorem w79{x0:Dat}{x1:Dat}{n2:Int}{g:Glob}{Qf:OGP}(h0:HasTy TT 22 x0)(h1:HasTy TT 52 x1)
 (h:Br (decide (intOf (fld x1 0)<1)) (Qf (.val (.d (.bool false))) (gnew (gnew g [x0]) [.int .i64 n2])) (Br (decide (4<intOf (fld x1 0))) (Qf (.val (.d (.bool false))) (gnew (gnew g [x0]) [.int .i64 n2])) (∃n,GOk TT 3 (gnew (gnew g [x0]) [.int .i64 n2]) (gnew g [x0]).boxes.length 0 (.int .i64 n)∧Br (decide (256<n)) (Qf (.val (.d (.bool false))) (gnew (gnew g [x0]) [.int .i64 n2])) (Br (intOf (fld x1 0)==4) (∃x,HasTy TT 22 x∧GOk TT 22 (gnew (gnew g [x0]) [.int .i64 n2]) g.boxes.length 0 x∧EvF TT 49 [x,.str (strOf (fld x1 1))] (gnew (gnew g [x0]) [.int .i64 n2]) (KQ Qf λv g'=>∃n n_1 b,RetT v [.int .i64 n,.int .i64 n_1,.bool b]∧Br (!b) (Qf (.val (.d (.bool false))) g') (∃x,HasTy TT 22 x∧GOk TT 22 g' g.boxes.length 0 x∧InB n (elsOf x).length∧InB n_1 (elsOf (fld (getE (elsOf x) n) 2)).length∧Br ((↑(elsOf (fld (getE (elsOf (fld (getE (elsOf x) n) 2)) n_1) 1)).length:Int)!=(↑(elsOf (fld x1 3)).length:Int)) (Qf (.val (.d (.bool false))) g') (EvF TT 77 [fld x1 3,.clo 124 [.ptr (some (g.boxes.length,0)),.ptr (some ((gnew g [x0]).boxes.length,0))]] g' (KQ Qf λv g'=>∃b,v=.d (.bool b)∧Qf (.val (.d (.bool !b))) g'))))) (EvF TT 77 [fld x1 3,.clo 124 [.ptr (some (g.boxes.length,0)),.ptr (some ((gnew g [x0]).boxes.length,0))]] (gnew (gnew g [x0]) [.int .i64 n2]) (KQ Qf λv g'=>∃b,v=.d (.bool b)∧Qf (.val (.d (.bool !b))) g')))))):
 EvF TT 79 [x0,x1,.int .i64 n2] g Qf:=
 sx_fun (rk:=rk) (fn:=Tryz.f79) (loops:=lo79) (joins:=[]) (n:=100000) (args:=[(22,x0),(52,x1),(3,.int .i64 n2)]) rfl rfl rfl rfl ⟨h0,h1,tyInt rfl,trivial⟩ (by kernel_rfl) h
def lo124:List CutI:=[]
theorem w124{x0:Dat}{p1:Nat}{p2:Nat}{g:Glob}{Qf:OGP}(h0:HasTy TT 52 x0)
 (h:∃x,HasTy TT 22 x∧GOk TT 22 g p1 0 x∧∃n,GOk TT 3 g p2 0 (.int .i64 n)∧EvF TT 79 [x,x0,.int .i64 (IntKind.i64.wrap (n+1))] g (KQ Qf λv g'=>∃b,v=.d (.bool b)∧Qf (.val (.d (.bool !b))) g')):
 EvF TT 124 [x0,.ptr (some (p1,0)),.ptr (some (p2,0))] g Qf:=
 sx_fun (rk:=rk) (fn:=Tryz.f124) (loops:=lo124) (joins:=[]) (n:=100000) (args:=[(52,x0),(0,.ptr (some (p1,0))),(0,.ptr (some (p2,0)))]) rfl rfl rfl rfl ⟨h0,tyPtr0 rfl,tyPtr0 rfl,trivial⟩ (by kernel_rfl) h
def L46_3(x1:Dat)(n2:Int)(p3:Nat)(n7:Int)(x12:Dat)(n13:Int)(n14:Int)(g:Glob)(Qf:OGP):Prop:=CutP TT Tryz.f46 [1,1,0,1,0] Qf (mkC TT 46 Tryz.f46 3 [(1,.v 86 (x1)),(2,.v 3 (.int .i64 n2)),(3,.v 0 (.ptr (some (p3,0)))),(7,.v 3 (.int .i64 n7)),(12,.v 86 (x12)),(13,.v 3 (.int .i64 n13)),(14,.v 3 (.int .i64 n14))] [] g)
def L46_8(x1:Dat)(n2:Int)(p3:Nat)(n7:Int)(x12:Dat)(n13:Int)(n14:Int)(x22:Dat)(n23:Int)(n24:Int)(g:Glob)(Qf:OGP):Prop:=CutP TT Tryz.f46 [1,1,0,1,0,0,1,1,0,0,1,1,1,0] Qf (mkC TT 46 Tryz.f46 3 [(1,.v 86 (x1)),(2,.v 3 (.int .i64 n2)),(3,.v 0 (.ptr (some (p3,0)))),(7,.v 3 (.int .i64 n7)),(12,.v 86 (x12)),(13,.v 3 (.int .i64 n13)),(14,.v 3 (.int .i64 n14)),(22,.v 24 (x22)),(23,.v 3 (.int .i64 n23)),(24,.v 3 (.int .i64 n24))] [] g)
def lo46:List CutI:=[⟨3,[(1,.keep),(2,.keep),(3,.keep),(7,.keep),(12,.keep),(13,.keep),(14,.keep)],[]⟩,⟨8,[(1,.keep),(2,.keep),(3,.keep),(7,.keep),(12,.keep),(13,.keep),(14,.keep),(22,.keep),(23,.keep),(24,.keep)],[]⟩]
theorem w46{x0:Dat}{x1:Dat}{n2:Int}{g:Glob}{Qf:OGP}(h0:HasTy TT 22 x0)(h1:HasTy TT 86 x1)
 (h:L46_3 x1 n2 g.boxes.length 2048 x1 (↑(elsOf x1).length:Int) 0 (gnew g [x0]) Qf):
 EvF TT 46 [x0,x1,.int .i64 n2] g Qf:=
 sx_fun (rk:=rk) (fn:=Tryz.f46) (loops:=lo46) (joins:=[]) (n:=100000) (args:=[(22,x0),(86,x1),(3,.int .i64 n2)]) rfl rfl rfl rfl ⟨h0,h1,tyInt rfl,trivial⟩ (by kernel_rfl) h
theorem w46_3{x1:Dat}{n2:Int}{p3:Nat}{n7:Int}{x12:Dat}{n13:Int}{n14:Int}{g:Glob}{Qf:OGP}
 (h:Br (decide (n14<n13)) (InB n14 (elsOf x12).length∧Br ((↑(elsOf (fld (getE (elsOf x12) n14) 0)).length:Int)!=n2) (Qf (.val (.d (.bool false))) g) (L46_8 x1 n2 p3 n7 x12 n13 n14 (fld (getE (elsOf x12) n14) 0) (↑(elsOf (fld (getE (elsOf x12) n14) 0)).length:Int) 0 g Qf)) (EvF TT 75 [x1,.clo 76 [.ptr (some (p3,0))]] g (KQ Qf λv g'=>∃b,v=.d (.bool b)∧Qf (.val (.d (.bool !b))) g'))):
 L46_3 x1 n2 p3 n7 x12 n13 n14 g Qf:=sx_cut (rk:=rk) (loops:=lo46) (joins:=[]) (n:=100000) (by kernel_rfl) h
theorem w46_8{x1:Dat}{n2:Int}{p3:Nat}{n7:Int}{x12:Dat}{n13:Int}{n14:Int}{x22:Dat}{n23:Int}{n24:Int}{g:Glob}{Qf:OGP}
 (h:Br (decide (n24<n23)) (InB n24 (elsOf x22).length∧EvF TT 74 [getE (elsOf x22) n24,.int .i64 n7] g (KQ Qf λv g'=>∃n,v=.d (.int .i64 n)∧Br (decide (n<0)) (Qf (.val (.d (.bool false))) g') (L46_8 x1 n2 p3 n x12 n13 n14 x22 n23 (IntKind.i64.wrap (n24+1)) g' Qf))) (L46_3 x1 n2 p3 n7 x12 n13 (IntKind.i64.wrap (n14+1)) g Qf)):
 L46_8 x1 n2 p3 n7 x12 n13 n14 x22 n23 n24 g Qf:=sx_cut (rk:=rk) (loops:=lo46) (joins:=[]) (n:=100000) (by kernel_rfl) h
def lo47:List CutI:=[]
theorem w47{x0:Dat}{x1:Dat}{x2:Dat}{g:Glob}{Qf:OGP}(h0:HasTy TT 22 x0)(h1:HasTy TT 86 x1)(h2:HasTy TT 24 x2)
 (h:EvF TT 81 [.ptr (some ((gnew (gnew g [.bool false]) [.int .i64 0]).boxes.length,0)),x1,x2] (gnew (gnew (gnew g [.bool false]) [.int .i64 0]) [x0,.int .i64 (intOf (.int .i64 0))]) λout g'=>Outc (λx=>DefQ TT [(80,[.ptr (some (g.boxes.length,0)),.ptr (some ((gnew g [.bool false]).boxes.length,0))])] [(4,g.boxes.length,0),(33,(gnew g [.bool false]).boxes.length,0)] (some x) g' Qf) (λv=>∃b,v=.d (.bool b)∧GPut g' g.boxes.length 0 1∧GPut (gput g' g.boxes.length 0 (.bool b)) (gnew g [.bool false]).boxes.length 0 1∧DefQ TT [(80,[.ptr (some (g.boxes.length,0)),.ptr (some ((gnew g [.bool false]).boxes.length,0))])] [(4,g.boxes.length,0),(33,(gnew g [.bool false]).boxes.length,0)] none (gput (gput g' g.boxes.length 0 (.bool b)) (gnew g [.bool false]).boxes.length 0 (.int .i64 0)) Qf) out):
 EvF TT 47 [x0,x1,x2] g Qf:=
 sx_fun (rk:=rk) (fn:=Tryz.f47) (loops:=lo47) (joins:=[]) (n:=100000) (args:=[(22,x0),(86,x1),(24,x2)]) rfl rfl rfl rfl ⟨h0,h1,h2,trivial⟩ (by kernel_rfl) h
def lo42:List CutI:=[]
theorem w42{x0:Dat}{x1:Dat}{x2:Dat}{g:Glob}{Qf:OGP}(h0:HasTy TT 22 x0)(h1:HasTy TT 86 x1)(h2:HasTy TT 24 x2)
 (h:EvF TT 72 [x1] g (KQ Qf λv g'=>∃x,HasTy TT 86 x∧RetV v x∧Fits ((elsOf x).length+[x2].length) 24∧∃r g'_1,gapp 1 x [x2] (gtok g' 1 1)=some (r,g'_1)∧EvF TT 46 [x0,r,.int .i64 (↑(elsOf x2).length:Int)] g'_1 (KQ Qf λv g'=>∃b,v=.d (.bool b)∧Br (!b) (Qf (.val (.tuple [.d (.bool false),.d (.int .i64 1)])) g') (EvF TT 47 [x0,x1,x2] g' (KQ Qf λv g'=>∃b n,RetT v [.bool b,.int .i64 n]∧Qf (.val (.tuple [.d (.bool b),.d (.int .i64 n)])) g'))))):
 EvF TT 42 [x0,x1,x2] g Qf:=
 sx_fun (rk:=rk) (fn:=Tryz.f42) (loops:=lo42) (joins:=[]) (n:=100000) (args:=[(22,x0),(86,x1),(24,x2)]) rfl rfl rfl rfl ⟨h0,h1,h2,trivial⟩ (by kernel_rfl) h
def L43_3(l3:List Dat)(x6:Dat)(n7:Int)(n8:Int)(g:Glob)(Qf:OGP):Prop:=CutP TT Tryz.f43 [1,1,0,1,0] Qf (mkC TT 43 Tryz.f43 1 [(3,.acc [(16,0)] 86 1 l3),(6,.v 24 (x6)),(7,.v 3 (.int .i64 n7)),(8,.v 3 (.int .i64 n8))] [] g)
def lo43:List CutI:=[⟨3,[(3,.acc [16]),(6,.keep),(7,.keep),(8,.keep)],[]⟩]
theorem w43{x0:Dat}{g:Glob}{Qf:OGP}(h0:HasTy TT 24 x0)
 (h:L43_3 [] x0 (↑(elsOf x0).length:Int) 0 g Qf):
 EvF TT 43 [x0] g Qf:=
 sx_fun (rk:=rk) (fn:=Tryz.f43) (loops:=lo43) (joins:=[]) (n:=100000) (args:=[(24,x0)]) rfl rfl rfl rfl ⟨h0,trivial⟩ (by kernel_rfl) h
theorem w43_3{l3:List Dat}{x6:Dat}{n7:Int}{n8:Int}{g:Glob}{Qf:OGP}
 (h:Br (decide (n8<n7)) (InB n8 (elsOf x6).length∧Fits (l3.length+[Dat.sl 5 [getE (elsOf x6) n8]].length) 24∧L43_3 (l3++[Dat.sl 5 [getE (elsOf x6) n8]]) x6 n7 (IntKind.i64.wrap (n8+1)) g Qf) (Qf (.val (retOf 1 l3)) g)):
 L43_3 l3 x6 n7 n8 g Qf:=sx_cut (rk:=rk) (loops:=lo43) (joins:=[]) (n:=100000) (by kernel_rfl) h
def lo16:List CutI:=[]
theorem w16{x0:Dat}{x1:Dat}{g:Glob}{Qf:OGP}(h0:HasTy TT 22 x0)(h1:HasTy TT 24 x1)
 (h:EvF TT 43 [x1] g (KQ Qf λv g'=>∃x,HasTy TT 86 x∧RetV v x∧EvF TT 44 [.int .i64 1] g' (KQ Qf λv g'=>∃x_1,HasTy TT 24 x_1∧RetV v x_1∧EvF TT 42 [x0,x,x_1] g' (KQ Qf λv g'=>∃b n,RetT v [.bool b,.int .i64 n]∧Br (!b) (Qf (.val (.tuple [.d (.bool (n==0)),.d (.int .i64 n)])) g') (Qf (.val (.tuple [.d (.bool false),.d (.int .i64 n)])) g'))))):
 EvF TT 16 [x0,x1] g Qf:=
 sx_fun (rk:=rk) (fn:=Tryz.f16) (loops:=lo16) (joins:=[]) (n:=100000) (args:=[(22,x0),(24,x1)]) rfl rfl rfl rfl ⟨h0,h1,trivial⟩ (by kernel_rfl) h
end Go.Proofs.YtiheejdkkjfenaaGreatDoor.Pa
namespace Go.Proofs.YtiheejdkkjfenaaGreatDoor.Pa
open Go Go.Proofs.YtiheejdkkjfenaaGreatDoor.Am
theorem counted_ok:∀(k:Nat) (x:Dat) (g:Glob) (n1:Int),SizeOf.sizeOf x<k→HasTy TT 52 x→0≤n1→n1≤2048→∀(Qf:OGP),Qf (.val (.d (.int .i64 (lft n1 (szPt (absPt x)))))) g→EvF TT 74 [x,.int .i64 n1] g Qf
 |0,x,g,n1,hk,_,_,_=>by omega
 |k+1,x,g,n1,hk,hx,h0,h1=>by
  intro Qf hQ
  refine w74 hx ?_
  obtain⟨k1,s1,v1,a1,p1,rfl,hs1,t1⟩:=pat_ty hx
  have ex:=t1.els undPats
  have exl:=ex.1.1
  have hc:=sizeOf_cell (cs:=[.int .i64 k1,.str s1,.int .i64 v1,a1,.int .i64 p1]) (c:=a1) (by simp)
  rw[wrap_id (by omega) (by omega)]
  have hz:lft n1 (szPt (absPt (.agg [.int .i64 k1,.str s1,.int .i64 v1,a1,.int .i64 p1])))=lft (n1-1) (szPts (((elsOf a1).drop 0).map absPt)):=by
   simp only[absPt,szPt,absPtA_map,List.drop_zero]
   rw[lft_add]
   congr 1
   unfold lft
   split<;>omega
  rw[hz] at hQ
  refine loopUp (len:=(elsOf a1).length) (λi=>∀n:Int,-1≤n→n≤2048→Qf (.val (.d (.int .i64 (lft n (szPts (((elsOf a1).drop i).map absPt)))))) g→L74_3 n (i:Int) (.agg [.int .i64 k1,.str s1,.int .i64 v1,a1,.int .i64 p1]) g Qf) ?_ ?_ 0 (Nat.zero_le _) (n1-1) (by omega) (by omega) hQ
  ·intro n h0 h1 hQ
   refine w74_3 ?_
   rw[show(fld (Dat.agg [.int .i64 k1,.str s1,.int .i64 v1,a1,.int .i64 p1]) 3)=a1 from rfl,Br_ge]
   rw[List.drop_length,show lft n (szPts (([]:List Dat).map absPt))=n from by simp only[List.map_nil,szPts,lft];split<;>omega] at hQ
   exact hQ
  ·intro i hi ih n h0 h1 hQ
   refine w74_3 ?_
   rw[show(fld (Dat.agg [.int .i64 k1,.str s1,.int .i64 v1,a1,.int .i64 p1]) 3)=a1 from rfl,Br_lt hi,getE_nat hi]
   refine Br_iff.2 ⟨λq=>⟨inB hi,?_⟩,λq=>?_⟩
   ·have hsz:=sizeOf_el hi
    refine counted_ok k _ g _ (by omega) (ex.2 _ (List.getElem_mem hi)) (of_decide_eq_true q) h1 _ ⟨_,rfl,?_⟩
    rw[wrap_nat (by omega)]
    refine ih _ (lft_rng _ h1).1 (lft_rng _ h1).2 ?_
    rw[←lft_add,←szPts_drop hi]
    exact hQ
   ·rw[lft_lt _ (by have:=of_decide_eq_false q;omega) h0] at hQ
    exact hQ
mutual
def fitB(D:List Dc):Nat→Pt→Bool
 |d,.mk k s _ a _=>(decide (1≤k)&&decide (k≤4))&&(decide (d≤256)&&((!(k==4)||((findDc s D 0).2.2&&nFields D s==a.length))&&fitBs D (d+1) a))
def fitBs(D:List Dc):Nat→List Pt→Bool
 |_,[]=>true
 |d,x::l=>fitB D d x&&fitBs D d l
end
theorem fitBs_all(D:List Dc)(d:Nat)(l:List Pt):fitBs D d l=l.all (fitB D d):=by induction l with
 |nil=>rfl
 |cons x l ih=>rw[fitBs,List.all_cons,ih]
mutual
theorem fitB_ok(D:List Dc):∀(d:Nat) (x:Pt),fitB D d x=true→okP D x=true
 |d,.mk k s n a p,h=>by
  simp only[fitB,Bool.and_eq_true] at h
  simp only[okP,Bool.and_eq_true]
  exact⟨h.1,h.2.2.1,fitBs_ok D _ a h.2.2.2⟩
theorem fitBs_ok(D:List Dc):∀(d:Nat) (l:List Pt),fitBs D d l=true→okPs D l=true
 |_,[],_=>rfl
 |d,x::l,h=>by
  simp only[fitBs,Bool.and_eq_true] at h
  simp only[okPs,Bool.and_eq_true]
  exact⟨fitB_ok D d x h.1,fitBs_ok D d l h.2⟩
end
def mayB(D:List Dc)(rows:List (List Pt))(cols:Nat):Bool:=
 rows.all (λr=>r.length==cols)&&(decide ((rows.map szPts).sum≤2048)&&rows.all λr=>r.all (fitB D 1))
def goCount(cols:Nat):Int→List (List Pt)→Bool
 |n,[]=>true
 |n,r::l=>(r.length==cols)&&(decide (0≤lft n (szPts r))&&goCount cols (lft n (szPts r)) l)
theorem goCount_eq(cols:Nat):∀(l:List (List Pt)) (n:Int),0≤n→goCount cols n l=(l.all (λr=>r.length==cols)&&decide (((l.map szPts).sum:Int)≤n))
 |[],n,h=>by simp[goCount,h]
 |r::l,n,h=>by
  rw[goCount,List.all_cons,List.map_cons,List.sum_cons]
  by_cases hr:(szPts r:Int)≤n
  ·have e:lft n (szPts r)=n-szPts r:=if_pos hr
   rw[e,goCount_eq cols l _ (by omega)]
   have e1:decide (0≤n-(szPts r:Int))=true:=decide_eq_true (by omega)
   have e2:decide (((l.map szPts).sum:Int)≤n-szPts r)=decide (((szPts r+(l.map szPts).sum:Nat):Int)≤n):=by
    rw[decide_eq_decide];omega
   rw[e1,e2,Bool.true_and,Bool.and_assoc]
  ·have e:lft n (szPts r)=-1:=if_neg hr
   have e2:decide (((szPts r+(l.map szPts).sum:Nat):Int)≤n)=false:=decide_eq_false (by omega)
   rw[e,e2,Bool.and_false,show decide ((0:Int)≤-1)=false from rfl,Bool.false_and,Bool.and_false]
section
variable{g:Glob}{Qf:OGP}
theorem containsPatsK{f:FuncId}{c:List Dat}{p:Dat→Bool}{x:Dat}(hx:HasTy TT 24 x)
 (hf:∀y∈elsOf x,∀g1,Kp [] 0 g g1→∀Q:Out→Glob→Prop,(∀g2,Kp [] 0 g1 g2→Q (.val (.d (.bool (p y)))) g2)→EvF TT f (y::c) g1 Q) (hQ:∀g',Kp [] 0 g g'→Qf (.val (.d (.bool ((elsOf x).any p)))) g'):EvF TT 77 [x,.clo f c] g Qf:=by
 have exl:=len_le undPats hx
 refine w77 hx (w123 hx ?_)
 refine loopUp (len:=(elsOf x).length) (λi=>∀g1,Kp [] 0 g g1→(∀g',Kp [] 0 g g'→Qf (.val (.d (.bool (((elsOf x).drop i).any p)))) g')→L123_2 x f c ((elsOf x).length:Int) (i:Int) g1 ((KQ Qf λv g'=>∃n,v=Val.d (Dat.int IntKind.i64 n)∧Qf (Out.val (Val.d (Dat.bool (decide (0≤n))))) g'))) ?_ ?_ 0 (Nat.zero_le _) g (Kp.refl _ _ _) hQ
 ·intro g1 k h
  refine w123_2 ?_
  rw[Br_ge]
  rw[List.drop_length] at h
  exact⟨_,rfl,h g1 k⟩
 ·intro i hi ih g1 k h
  refine w123_2 ?_
  rw[Br_lt hi,getE_nat hi]
  rw[List.drop_eq_getElem_cons hi,List.any_cons] at h
  refine⟨inB hi,hf _ (List.getElem_mem hi) g1 k _ λg2 k2=>⟨_,rfl,Br_iff.2 ⟨λq=>⟨_,rfl,?_⟩,λq=>?_⟩⟩⟩
  ·rw[q,Bool.true_or] at h
   have e:decide ((0:Int)≤(i:Int))=true:=decide_eq_true (by omega)
   rw[e]
   exact h g2 (k.trans k2)
  ·rw[wrap_nat (by omega)]
   rw[q,Bool.false_or] at h
   exact ih g2 (k.trans k2) h
theorem containsRowsK{f:FuncId}{c:List Dat}{p:Dat→Bool}{x:Dat}(hx:HasTy TT 86 x)
 (hf:∀y∈elsOf x,∀g1,Kp [] 0 g g1→∀Q:Out→Glob→Prop,(∀g2,Kp [] 0 g1 g2→Q (.val (.d (.bool (p y)))) g2)→EvF TT f (y::c) g1 Q) (hQ:∀g',Kp [] 0 g g'→Qf (.val (.d (.bool ((elsOf x).any p)))) g'):EvF TT 75 [x,.clo f c] g Qf:=by
 have exl:=len_le undRows hx
 have ex:=hx.els undRows
 refine w75 hx (w122 hx ?_)
 refine loopUp (len:=(elsOf x).length) (λi=>∀g1,Kp [] 0 g g1→(∀g',Kp [] 0 g g'→Qf (.val (.d (.bool (((elsOf x).drop i).any p)))) g')→L122_2 x f c ((elsOf x).length:Int) (i:Int) g1 ((KQ Qf λv g'=>∃n,v=Val.d (Dat.int IntKind.i64 n)∧Qf (Out.val (Val.d (Dat.bool (decide (0≤n))))) g'))) ?_ ?_ 0 (Nat.zero_le _) g (Kp.refl _ _ _) hQ
 ·intro g1 k h
  refine w122_2 ?_
  rw[Br_ge]
  rw[List.drop_length] at h
  exact⟨_,rfl,h g1 k⟩
 ·intro i hi ih g1 k h
  refine w122_2 ?_
  rw[Br_lt hi,getE_nat hi,fld_row (ex.2 _ (List.getElem_mem hi))]
  rw[List.drop_eq_getElem_cons hi,List.any_cons] at h
  refine⟨inB hi,hf _ (List.getElem_mem hi) g1 k _ λg2 k2=>⟨_,rfl,Br_iff.2 ⟨λq=>⟨_,rfl,?_⟩,λq=>?_⟩⟩⟩
  ·rw[q,Bool.true_or] at h
   have e:decide ((0:Int)≤(i:Int))=true:=decide_eq_true (by omega)
   rw[e]
   exact h g2 (k.trans k2)
  ·rw[wrap_nat (by omega)]
   rw[q,Bool.false_or] at h
   exact ih g2 (k.trans k2) h
end
theorem decl_con{l:Dat}{s:Str}(hl:HasTy TT 22 l)(hf:(findDc s (DD l) 0).2.2=true):
 ∃n m:Int,(findDc s (DD l) 0).1=n∧(findDc s (DD l) 0).2.1=m∧InB n (elsOf l).length∧InB m (elsOf (fld (getE (elsOf l) n) 2)).length∧(elsOf (fld (getE (elsOf (fld (getE (elsOf l) n) 2)) m) 1)).length=nFields (DD l) s:=by
 obtain⟨n,d1,d2,d3,d4⟩:=decl_cons hl hf
 rcases findDc_spec s (DD l) 0 with ⟨k,j,d,c,h1,h2,h3,_⟩|⟨h1,_⟩
 ·have hc:consOf (DD l) s=d.cs:=by
   unfold consOf
   rw[h1]
   simp only[Int.zero_add,Int.toNat_natCast,h2]
  rw[hc] at d4
  have hj:j<(elsOf (fld (getE (elsOf l) n) 2)).length:=by
   have:=(List.getElem?_eq_some_iff.1 h3).1
   rw[←d4,List.length_map] at this
   exact this
  refine⟨n,(j:Int),d1,by rw[h1],d2,inB hj,?_⟩
  have tc:=(d3.els undCons).2 _ (List.getElem_mem hj)
  rw[getE_nat hj,(con_flds tc).2.1]
  have hcj:absCn (elsOf (fld (getE (elsOf l) n) 2))[j]=c:=by
   rw[←d4,List.getElem?_map,List.getElem?_eq_getElem hj] at h3
   exact Option.some.inj h3
  unfold nFields
  rw[hc,h1]
  simp only[Int.toNat_natCast,h3]
  rw[hcj]
 ·rw[h1] at hf;cases hf
theorem fits_ok{l:Dat}(hl:HasTy TT 22 l):∀(k:Nat) (x:Dat) (d:Nat) (g:Glob),SizeOf.sizeOf x<k→HasTy TT 52 x→d≤257→∀(Qf:OGP),(∀g',Kp [] 0 g g'→Qf (.val (.d (.bool (fitB (DD l) d (absPt x))))) g')→EvF TT 79 [l,x,.int .i64 d] g Qf
 |0,x,d,g,hk,_,_=>by omega
 |k+1,x,d,g,hk,hx,hd=>by
  intro Qf hQ
  have hw:=w79 (n2:=(d:Int)) (g:=g) (Qf:=Qf) hl hx
  obtain⟨k1,s1,n1,a1,q1,rfl,hs1,t1⟩:=pat_ty hx
  have hab:absPt (.agg [.int .i64 k1,.str s1,.int .i64 n1,a1,.int .i64 q1])=.mk k1 s1 n1 (rowAbs a1) q1:=by unfold rowAbs;rw[←absPtA_map];rfl
  rw[hab] at hQ
  simp only[fitB] at hQ
  have hc:=sizeOf_cell (cs:=[.int .i64 k1,.str s1,.int .i64 n1,a1,.int .i64 q1]) (c:=a1) (by simp)
  have e1:=t1.els undPats
  refine hw ?_
  have kA:Kp [] 0 g (gnew (gnew g [l]) [Dat.int IntKind.i64 (d:Int)]):=(kp_gnew g _ 0).trans (kp_gnew _ _ 0)
  have b1:(gnew (gnew g [l]) [Dat.int IntKind.i64 (d:Int)]).boxes[g.boxes.length]?=some (.cells [.d l]):=by rw[gnew_old _ (by rw[gnew_len];omega)];exact gnew_get _ _
  have b2:(gnew (gnew g [l]) [Dat.int IntKind.i64 (d:Int)]).boxes[(gnew g [l]).boxes.length]?=some (.cells [.d (.int .i64 (d:Int))]):=gnew_get _ _
  generalize (gnew (gnew g [l]) [Dat.int IntKind.i64 (d:Int)])=G at*
  generalize (gnew g [l]).boxes.length=pd at*
  have f0:intOf (fld (.agg [.int .i64 k1,.str s1,.int .i64 n1,a1,.int .i64 q1]) 0)=k1:=rfl
  have f1:strOf (fld (.agg [.int .i64 k1,.str s1,.int .i64 n1,a1,.int .i64 q1]) 1)=s1:=rfl
  have f3:fld (.agg [.int .i64 k1,.str s1,.int .i64 n1,a1,.int .i64 q1]) 3=a1:=rfl
  rw[f0,f1,f3]
  have gl:∀g',Kp [] 0 G g'→GOk TT 22 g' g.boxes.length 0 l:=λg' kk=>gokD undDecls szDecls rfl (kk.at b1 (by simp)) rfl
  have fin:∀b,(((decide (1≤k1)&&decide (k1≤4))&&(decide (d≤256)&&((!(k1==4)||((findDc s1 (DD l) 0).2.2&&nFields (DD l) s1==(rowAbs a1).length))&&fitBs (DD l) (d+1) (rowAbs a1))))=b)→∀g',Kp [] 0 G g'→Qf (.val (.d (.bool b))) g':=λb e g' kk=>by
   have:=hQ g' (kA.trans kk)
   rw[e] at this
   exact this
  -- the parts
  have parts:d≤256→∀g',Kp [] 0 G g'→(∀g'',Kp [] 0 g' g''→Qf (.val (.d (.bool (fitBs (DD l) (d+1) (rowAbs a1))))) g'')→
   EvF TT 77 [a1,Dat.clo 124 [Dat.ptr (some (g.boxes.length,0)),Dat.ptr (some (pd,0))]] g' (KQ Qf λv g'=>∃b,v=Val.d (Dat.bool b)∧Qf (Out.val (Val.d (Dat.bool !b))) g'):=λhd' g' kk hq=>by
   refine containsPatsK (p:=λy=>!fitB (DD l) (d+1) (absPt y)) t1 (λy hy g1 k1' Q hq'=>?_) (λg'' k''=>⟨_,rfl,?_⟩)
   ·have ty:=e1.2 _ hy
    have hsz:SizeOf.sizeOf y<SizeOf.sizeOf a1:=by
     obtain⟨i,hi,rfl⟩:=List.mem_iff_getElem.1 hy
     exact sizeOf_el hi
    refine w124 ty ⟨l,hl,gl _ (kk.trans k1'),(d:Int),gokD undInt szInt17 rfl ((kk.trans k1').at b2 (by simp)) rfl,?_⟩
    rw[wrap_nat (by omega)]
    exact fits_ok hl k y (d+1) g1 (by omega) ty (by omega) _ λg2 k2=>⟨_,rfl,hq' g2 k2⟩
   ·have e:(!(elsOf a1).any λy=>!fitB (DD l) (d+1) (absPt y))=fitBs (DD l) (d+1) (rowAbs a1):=by
     rw[fitBs_all,List.not_any_eq_all_not]
     unfold rowAbs
     rw[List.all_map]
     refine congrArg _ (funext λy=>?_)
     simp
    rw[e]
    exact hq g'' k''
  refine Br_iff.2 ⟨λq=>fin false ?_ G (Kp.refl _ _ _),λq=>Br_iff.2 ⟨λq2=>fin false ?_ G (Kp.refl _ _ _),λq2=>⟨(d:Int),gokD undInt szInt17 rfl b2 rfl,Br_iff.2 ⟨λq3=>fin false ?_ G (Kp.refl _ _ _),λq3=>?_⟩⟩⟩⟩
  ·have:decide (1≤k1)=false:=decide_eq_false (by have:=of_decide_eq_true q;omega)
   rw[this];rfl
  ·have:decide (k1≤4)=false:=decide_eq_false (by have:=of_decide_eq_true q2;omega)
   rw[this,Bool.and_false];rfl
  ·have:decide (d≤256)=false:=decide_eq_false (by have:=of_decide_eq_true q3;omega)
   rw[this,Bool.false_and,Bool.and_false]
  ·have c1:decide (1≤k1)=true:=decide_eq_true (by have:=of_decide_eq_false q;omega)
   have c2:decide (k1≤4)=true:=decide_eq_true (by have:=of_decide_eq_false q2;omega)
   have hd':d≤256:=by have:=of_decide_eq_false q3;omega
   have c3:decide (d≤256)=true:=decide_eq_true hd'
   refine Br_iff.2 ⟨λq4=>⟨l,hl,gl G (Kp.refl _ _ _),find_ok l s1 G hl hs1 _ ⟨_,_,_,⟨rfl,rfl,rfl,trivial⟩,Br_iff.2 ⟨λq5=>fin false ?_ G (Kp.refl _ _ _),λq5=>⟨l,hl,gl G (Kp.refl _ _ _),?_⟩⟩⟩⟩,λq4=>parts hd' G (Kp.refl _ _ _) λg'' k''=>?_⟩
   ·rw[Bool.not_eq_true'] at q5
    rw[q4,q5]
    simp
   ·rw[Bool.not_eq_false'] at q5
    obtain⟨n,m,d1,d2,d3,d4,d5⟩:=decl_con hl q5
    rw[d1,d2]
    have hlen:(rowAbs a1).length=(elsOf a1).length:=List.length_map _
    refine⟨d3,d4,?_⟩
    rw[d5]
    refine Br_iff.2 ⟨λq6=>fin false ?_ G (Kp.refl _ _ _),λq6=>parts hd' G (Kp.refl _ _ _) λg'' k''=>?_⟩
    ·have:(nFields (DD l) s1==(rowAbs a1).length)=false:=by
      rw[hlen,beq_eq_false_iff_ne]
      intro e
      rw[e] at q6
      simp at q6
     rw[q4,this]
     simp
    ·have:(nFields (DD l) s1==(rowAbs a1).length)=true:=by
      rw[hlen,beq_iff_eq]
      have:(nFields (DD l) s1:Int)=((elsOf a1).length:Int):=by simpa[bne] using q6
      omega
     have h:=fin _ rfl g'' k''
     rw[c1,c2,c3,q4,q5,this] at h
     exact h
   ·have h:=fin _ rfl g'' k''
    rw[c1,c2,c3,q4] at h
    exact h
end Go.Proofs.YtiheejdkkjfenaaGreatDoor.Pa
namespace Go.Proofs.YtiheejdkkjfenaaGreatDoor.Pa
open Go Go.Proofs.YtiheejdkkjfenaaGreatDoor.Am
noncomputable def c80:Code:=match recovers (bodyOf Tryz.f80) with|some (_,c)=>c|none=>.skip
theorem df17None{p0 p1:Nat}{g:Glob}{K:Option Dat→Glob→Prop}(h:K none g):EvL TT [(80,[.ptr (some (p0,0)),.ptr (some (p1,0))])] none g K:=
 sx_def (rk:=rk) (fn:=Tryz.f80) (c':=c80) (loops:=[]) (joins:=[]) (n:=100000) (d:=5) (t:=20) (args:=[(0,.ptr (some (p0,0))),(0,.ptr (some (p1,0)))]) rfl rfl (by kernel_rfl) (Nat.le_of_ble_eq_true (by kernel_rfl)) (by kernel_rfl) rfl
  ⟨.ptr _ _ (by kernel_rfl),.ptr _ _ (by kernel_rfl),trivial⟩ (.nilIface _ (by kernel_rfl)) (cast (by kernel_rfl) h)
theorem tooTy:HasTy TT 130 (.agg []):=struct_of (tys:=[]) (by kernel_rfl) (by kernel_rfl) (by kernel_rfl) trivial
theorem df17Some{p0 p1:Nat}{g:Glob}{K:Option Dat→Glob→Prop}
 (h:GPut g p0 0 1∧GPut (gput g p0 0 (Dat.bool false)) p1 0 1∧K none (gput (gput g p0 0 (Dat.bool false)) p1 0 (Dat.int IntKind.i64 3))):
 EvL TT [(80,[.ptr (some (p0,0)),.ptr (some (p1,0))])] (some (.iface 130 (.agg []))) g K:=
 sx_def (rk:=rk) (fn:=Tryz.f80) (c':=c80) (loops:=[]) (joins:=[]) (n:=100000) (d:=5) (t:=20) (args:=[(0,.ptr (some (p0,0))),(0,.ptr (some (p1,0)))]) rfl rfl (by kernel_rfl) (Nat.le_of_ble_eq_true (by kernel_rfl)) (by kernel_rfl) rfl
  ⟨.ptr _ _ (by kernel_rfl),.ptr _ _ (by kernel_rfl),trivial⟩ (.iface _ _ _ (by kernel_rfl) tooTy) (cast (by kernel_rfl) h)
theorem undErr17:TT.und 33=some (.int .i64):=by kernel_rfl
theorem szErr17:TT.size 33=some 1:=by kernel_rfl
theorem szBool17:TT.size 4=some 1:=by kernel_rfl
def outBE(b:Bool)(n:Int):Out:=.val (.tuple [.d (.bool b),.d (.int .i64 n)])
theorem pin17{g:Glob}{p0 p1:Nat}{b:Bool}{n:Int}(h0:g.boxes[p0]?=some (.cells [.d (.bool b)]))(h1:g.boxes[p1]?=some (.cells [.d (.int .i64 n)])):
 pinVal TT [(4,p0,0),(33,p1,0)] g=some (.tuple [.d (.bool b),.d (.int .i64 n)]):=by
 simp only[pinVal,List.map_cons,List.map_nil,gloadD (o:=0) (x:=.bool b) undBool szBool17 rfl h0 rfl,gloadD (o:=0) (x:=.int .i64 n) undErr17 szErr17 rfl h1 rfl,optAll,Val.toD,Option.map_some]
theorem put17{g:Glob}{p0 p1:Nat}{b0:Bool}{n0:Int}(hne:p0≠p1)(h0:g.boxes[p0]?=some (.cells [.d (.bool b0)]))(h1:g.boxes[p1]?=some (.cells [.d (.int .i64 n0)]))(b:Bool)(n:Int):
 GPut g p0 0 1∧GPut (gput g p0 0 (Dat.bool b)) p1 0 1∧(gput (gput g p0 0 (Dat.bool b)) p1 0 (Dat.int IntKind.i64 n)).boxes[p0]?=some (.cells [.d (.bool b)])∧(gput (gput g p0 0 (Dat.bool b)) p1 0 (Dat.int IntKind.i64 n)).boxes[p1]?=some (.cells [.d (.int .i64 n)])∧
  Kp [p0,p1] 0 g (gput (gput g p0 0 (Dat.bool b)) p1 0 (Dat.int IntKind.i64 n)):=by
 obtain⟨a1,a2⟩:=gput_one (x:=.bool b) h0 rfl
 rw[a2]
 have h1':({g with boxes:=g.boxes.set p0 (.cells [.d (.bool b)])}:Glob).boxes[p1]?=some (.cells [.d (.int .i64 n0)]):=by
  show(g.boxes.set p0 _)[p1]?=_
  rw[List.getElem?_set_ne hne];exact h1
 obtain⟨b1,b2⟩:=gput_one (x:=.int .i64 n) h1' rfl
 rw[b2]
 have l0:=(List.getElem?_eq_some_iff.1 h0).1
 have l1:=(List.getElem?_eq_some_iff.1 h1).1
 refine⟨a1,b1,?_,?_,(kp_set g p0 _ 0 |>.le (by simp) (Nat.le_refl _)).trans (kp_set _ p1 _ 0 |>.le (by simp) (Nat.le_refl _))⟩
 ·show((g.boxes.set p0 _).set p1 _)[p0]?=_
  rw[List.getElem?_set_ne (Ne.symm hne),List.getElem?_set_self l0]
 ·show((g.boxes.set p0 _).set p1 _)[p1]?=_
  rw[List.getElem?_set_self (by rw[List.length_set];exact l1)]
def askedF(D:List Dc)(rows:List (List Pt))(row:List Pt):Bool×Int:=match useU D 65537 65536 rows row with
 |some (b,_)=>(b,0)
 |none=>(false,3)
theorem asked_ok{l X Y:Dat}{g:Glob}(hl:HasTy TT 22 l)(hF:FewF (DD l) 2097152)(tX:HasTy TT 86 X)(tY:HasTy TT 24 Y)(hi:InvU (DD l) 2097152 (rowsAbs X) (rowAbs Y))(Qf:OGP)
 (hQ:∀g',Kp [] 0 g g'→Qf (outBE (askedF (DD l) (rowsAbs X) (rowAbs Y)).1 (askedF (DD l) (rowsAbs X) (rowAbs Y)).2) g'):EvF TT 47 [l,X,Y] g Qf:=by
 refine w47 hl tX tY ?_
 have l1:(gnew g [Dat.bool false]).boxes.length=g.boxes.length+1:=gnew_len _ _
 have l2:(gnew (gnew g [Dat.bool false]) [Dat.int IntKind.i64 0]).boxes.length=g.boxes.length+2:=by rw[gnew_len,gnew_len]
 have kA:Kp [] 0 g (gnew (gnew (gnew g [Dat.bool false]) [Dat.int IntKind.i64 0]) [l,Dat.int IntKind.i64 (intOf (Dat.int IntKind.i64 0))]):=((kp_gnew g _ 0).trans (kp_gnew _ _ 0)).trans (kp_gnew _ _ 0)
 have b0:(gnew (gnew (gnew g [Dat.bool false]) [Dat.int IntKind.i64 0]) [l,Dat.int IntKind.i64 (intOf (Dat.int IntKind.i64 0))]).boxes[g.boxes.length]?=some (.cells [.d (.bool false)]):=by
  rw[gnew_old _ (by omega),gnew_old _ (by omega)];exact gnew_get _ _
 have b1:(gnew (gnew (gnew g [Dat.bool false]) [Dat.int IntKind.i64 0]) [l,Dat.int IntKind.i64 (intOf (Dat.int IntKind.i64 0))]).boxes[(gnew g [Dat.bool false]).boxes.length]?=some (.cells [.d (.int .i64 0)]):=by
  rw[gnew_old _ (by omega)];exact gnew_get _ _
 have b2:AskOk (gnew (gnew (gnew g [Dat.bool false]) [Dat.int IntKind.i64 0]) [l,Dat.int IntKind.i64 (intOf (Dat.int IntKind.i64 0))]) (gnew (gnew g [Dat.bool false]) [Dat.int IntKind.i64 0]).boxes.length l 65536:=gnew_get _ _
 generalize (gnew (gnew (gnew g [Dat.bool false]) [Dat.int IntKind.i64 0]) [l,Dat.int IntKind.i64 (intOf (Dat.int IntKind.i64 0))])=G at*
 rw[l2,l1] at*
 have out:∀g',Kp [g.boxes.length+2] 0 G g'→∀g'',Kp [g.boxes.length,g.boxes.length+1] 0 g' g''→Kp [] 0 g g'':=λg' k1 g'' k2=>by
  refine⟨Nat.le_trans kA.len (Nat.le_trans k1.len k2.len),λj hj _=>?_,Nat.le_trans kA.tlen (Nat.le_trans k1.tlen k2.tlen),λj hj=>by omega⟩
  have h1:=kA.len
  rw[k2.box j (by have:=k1.len;omega) (by simp;omega),k1.box j (by omega) (by simp;omega),kA.box j hj (by simp)]
 refine use_ok hl hF 65537 65536 (g.boxes.length+2) X Y G _ (by omega) (Nat.le_refl _) (Nat.le_refl _) tX tY b2 (by simpa using hi) (λb m' g' e k _=>?_) (λg' e k=>?_)
 ·have c0:=k.at b0 (by simp)
  have c1:=k.at b1 (by simp)
  obtain⟨d1,d2,d3,d4,d5⟩:=put17 (by omega) c0 c1 b 0
  refine⟨b,rfl,d1,d2,df17None ⟨_,pin17 d3 d4,?_⟩⟩
  have hh:=hQ _ (out _ k _ d5)
  have ea:askedF (DD l) (rowsAbs X) (rowAbs Y)=(b,0):=by unfold askedF;rw[e]
  rw[ea] at hh
  exact hh
 ·have c0:=k.at b0 (by simp)
  have c1:=k.at b1 (by simp)
  obtain⟨d1,d2,d3,d4,d5⟩:=put17 (by omega) c0 c1 false 3
  refine df17Some ⟨d1,d2,_,pin17 d3 d4,?_⟩
  have hh:=hQ _ (out _ k _ d5)
  have ea:askedF (DD l) (rowsAbs X) (rowAbs Y)=(false,3):=by unfold askedF;rw[e]
  rw[ea] at hh
  exact hh
theorem may_ok{l X:Dat}{cols:Nat}{g:Glob}(hl:HasTy TT 22 l)(tX:HasTy TT 86 X)(Qf:OGP)
 (hQ:∀g',Kp [] 0 g g'→Qf (.val (.d (.bool (mayB (DD l) (rowsAbs X) cols)))) g'):EvF TT 46 [l,X,.int .i64 cols] g Qf:=by
 have eX:=tX.els undRows
 have eXl:=eX.1.1
 have hlen:(rowsAbs X).length=(elsOf X).length:=List.length_map _
 have kA:=kp_gnew g [l] 0
 have bA:=gnew_get g [l]
 refine w46 hl tX ?_
 generalize gnew g [l]=G at*
 -- by the counting
 have hmay:mayB (DD l) (rowsAbs X) cols=(goCount cols 2048 (rowsAbs X)&&(rowsAbs X).all λr=>r.all (fitB (DD l) 1)):=by
  unfold mayB
  rw[goCount_eq cols _ _ (by omega),Bool.and_assoc]
  congr 2
  rw[decide_eq_decide]
  omega
 rw[hmay] at hQ
 have no:goCount cols 2048 (rowsAbs X)=false→Qf (.val (.d (.bool false))) G:=λh=>by
  have:=hQ G kA
  rw[h] at this
  exact this
 refine loopUp (len:=(elsOf X).length) (λi=>∀n:Int,0≤n→n≤2048→goCount cols n ((rowsAbs X).drop i)=goCount cols 2048 (rowsAbs X)→L46_3 X (cols:Int) g.boxes.length n X ((elsOf X).length:Int) (i:Int) G Qf) ?_ ?_ 0 (Nat.zero_le _) 2048 (by omega) (by omega) rfl
 ·intro n h0 h1 he
  refine w46_3 ?_
  rw[Br_ge]
  rw[←hlen,List.drop_length] at he
  have ht:goCount cols 2048 (rowsAbs X)=true:=by rw[←he];rfl
  rw[ht,Bool.true_and] at hQ
  refine containsRowsK (p:=λr=>!(rowAbs r).all (fitB (DD l) 1)) tX (λy hy g1 k1 Q hq=>?_) (λg' k=>⟨_,rfl,?_⟩)
  ·have ty:=eX.2 _ hy
   refine w76 ty ?_
   refine containsPatsK (p:=λa=>!fitB (DD l) 1 (absPt a)) ty (λa ha g2 k2 Q' hq'=>?_) (λg2 k2=>⟨_,rfl,?_⟩)
   ·have ta:=(ty.els undPats).2 _ ha
    refine w78 ta ⟨l,hl,gokD undDecls szDecls rfl ((k1.trans k2).at bA (by simp)) rfl,?_⟩
    exact fits_ok hl _ a 1 g2 (Nat.lt_succ_self _) ta (by omega) _ λg3 k3=>⟨_,rfl,hq' g3 k3⟩
   ·have e:((elsOf y).any λa=>!fitB (DD l) 1 (absPt a))=!(rowAbs y).all (fitB (DD l) 1):=by
     unfold rowAbs
     rw[List.all_map,List.not_all_eq_any_not]
     rfl
    rw[e]
    exact hq g2 k2
  ·have e:(!(elsOf X).any λr=>!(rowAbs r).all (fitB (DD l) 1))=(rowsAbs X).all λr=>r.all (fitB (DD l) 1):=by
    unfold rowsAbs
    rw[List.all_map,List.not_any_eq_all_not]
    refine congrArg _ (funext λy=>?_)
    simp
   rw[e]
   exact hQ g' (kA.trans k)
 ·intro i hi ih n h0 h1 he
  have hi':i<(rowsAbs X).length:=by omega
  have hr:(rowsAbs X)[i]=rowAbs (elsOf X)[i]:=List.getElem_map _
  have te:=eX.2 _ (List.getElem_mem hi)
  have ee:=te.els undPats
  have eel:=ee.1.1
  have hl0:(rowAbs (elsOf X)[i]).length=(elsOf (elsOf X)[i]).length:=List.length_map _
  rw[List.drop_eq_getElem_cons hi',hr] at he
  refine w46_3 ?_
  rw[Br_lt hi,getE_nat hi,fld_row te]
  refine⟨inB hi,Br_iff.2 ⟨λq=>no ?_,λq=>?_⟩⟩
  ·have:((rowAbs (elsOf X)[i]).length==cols)=false:=by
    rw[hl0,beq_eq_false_iff_ne]
    intro e
    rw[e] at q
    simp at q
   rw[←he,goCount,this,Bool.false_and]
  ·have hc:((rowAbs (elsOf X)[i]).length==cols)=true:=by
    have:((elsOf (elsOf X)[i]).length:Int)=(cols:Int):=by simpa[bne] using q
    rw[hl0,beq_iff_eq]
    omega
   rw[goCount,hc,Bool.true_and] at he
   refine loopUp (len:=(elsOf (elsOf X)[i]).length) (λj=>∀k:Int,0≤k→k≤2048→lft k (szPts (((elsOf (elsOf X)[i]).drop j).map absPt))=lft n (szPts (rowAbs (elsOf X)[i]))→L46_8 X (cols:Int) g.boxes.length k X ((elsOf X).length:Int) (i:Int) (elsOf X)[i] ((elsOf (elsOf X)[i]).length:Int) (j:Int) G Qf) ?_ ?_ 0 (Nat.zero_le _) n h0 h1 rfl
   ·intro k k0 k1 hk
    refine w46_8 ?_
    rw[Br_ge,wrap_nat (by omega)]
    have e0:lft k (szPts (([]:List Dat).map absPt))=k:=by simp only[List.map_nil,szPts,lft];split<;>omega
    rw[List.drop_length,e0] at hk
    rw[←hk] at he
    have e1:decide (0≤k)=true:=decide_eq_true k0
    rw[e1,Bool.true_and] at he
    exact ih k k0 k1 he
   ·intro j hj ihj k k0 k1 hk
    refine w46_8 ?_
    rw[Br_lt hj,getE_nat hj]
    rw[szPts_drop hj,lft_add] at hk
    refine⟨inB hj,counted_ok _ _ G k (Nat.lt_succ_self _) (ee.2 _ (List.getElem_mem hj)) k0 k1 _ ⟨_,rfl,Br_iff.2 ⟨λq2=>no ?_,λq2=>?_⟩⟩⟩
    ·have hneg:=of_decide_eq_true q2
     rw[lft_lt _ hneg (lft_rng _ k1).1] at hk
     rw[←he,←hk]
     have:decide (0≤lft k (szPt (absPt (elsOf (elsOf X)[i])[j])))=false:=decide_eq_false (by omega)
     rw[this,Bool.false_and]
    ·have hpos:=of_decide_eq_false q2
     rw[wrap_nat (by omega)]
     exact ihj _ (by omega) (lft_rng _ k1).2 hk
def usefulF(D:List Dc)(rows:List (List Pt))(row:List Pt):Bool×Int:=if mayB D (rows++[row]) row.length then askedF D rows row else(false,1)
theorem mayB_inv{D:List Dc}{rows:List (List Pt)}{row:List Pt}(h:mayB D (rows++[row]) row.length=true)(hl:row.length≤2097152):InvU D 2097152 rows row:=by
 simp only[mayB,Bool.and_eq_true,List.all_eq_true,beq_iff_eq] at h
 obtain⟨h1,_,h3⟩:=h
 exact⟨λr hr=>h1 r (by simp[hr]),hl,λx hx=>fitB_ok D 1 x (h3 row (by simp) x hx),λr hr x hx=>fitB_ok D 1 x (h3 r (by simp[hr]) x hx)⟩
theorem useful_ok{l X Y:Dat}{g:Glob}(hl:HasTy TT 22 l)(hF:FewF (DD l) 2097152)(tX:HasTy TT 86 X)(tY:HasTy TT 24 Y)(hn:elsOf X≠[]∨X=.nil)(hnl:(elsOf X).length≤2^30)(hY:(elsOf Y).length≤2097152)(Qf:OGP)
 (hQ:∀g',Kp [] 0 g g'→Qf (outBE (usefulF (DD l) (rowsAbs X) (rowAbs Y)).1 (usefulF (DD l) (rowsAbs X) (rowAbs Y)).2) g'):EvF TT 42 [l,X,Y] g Qf:=by
 have eX:=tX.els undRows
 have eXl:=eX.1.1
 have hYl:(rowAbs Y).length=(elsOf Y).length:=List.length_map _
 refine w42 hl tX tY ?_
 have fitR:∀n,n≤2^31→SlFit TT 24 n:=λn h=>⟨by omega,λb' hb'=>by rw[byRow] at hb';cases hb';omega⟩
 obtain⟨D0,g0,Z,G,hcl,tD,hD,hga,tZ,habs,kA⟩:∃D0 g0 Z G,(∀Qf:Out→Glob→Prop,Qf (.val (.d D0)) g0→EvF TT 72 [X] g Qf)∧HasTy TT 86 D0∧(elsOf D0).length=(elsOf X).length∧gapp 1 D0 [Y] (gtok g0 1 1)=some (Z,G)∧HasTy TT 86 Z∧rowsAbs Z=rowsAbs X++[rowAbs Y]∧Kp [] 0 g G:=by
  rcases hn with hn|rfl
  ·obtain⟨xs,rfl,hx⟩:∃xs,xs=elsOf X∧(X=.sl 1 xs∨∃t,X=.gsl t 1 xs):=by
    rcases tX.sl_inv undRows with h|⟨m,xs,h,hm,_,_⟩
    ·rw[h] at hn;exact absurd rfl hn
    ·rw[szRow] at hm
     cases hm
     rcases h with rfl|⟨k,rfl⟩
     ·exact⟨xs,rfl,.inl rfl⟩
     ·exact⟨xs,rfl,.inr ⟨k,rfl⟩⟩
   refine⟨.gsl g.toks.length 1 (elsOf X),⟨g.boxes,g.toks++[(1,(elsOf X).length)]⟩,.gsl g.toks.length 1 (elsOf X++[Y]),⟨g.boxes,(g.toks++[(1,(elsOf X).length)]++[(1,1)]).set g.toks.length (1,(elsOf X).length+1)⟩,λQf h=>rowClone_ok hx hn (by omega) g Qf h,.gsl _ _ _ _ _ undRows szRow eX.1 eX.2,rfl,?_,?_,?_,kp_same rfl (by simp) rfl⟩
   ·have ht:((g.toks++[(1,(elsOf X).length)])++[(1,1)])[g.toks.length]?=some (1,(elsOf X).length):=by simp
    simp only[gapp,gtok,List.isEmpty_cons,Bool.false_eq_true,if_false,ht,and_self,if_true]
    rfl
   ·exact .gsl _ _ _ _ _ undRows szRow (fitR _ (by simp;omega)) λy hy=>by
     rcases List.mem_append.1 hy with hy|hy
     ·exact eX.2 y hy
     ·simp only[List.mem_singleton] at hy;subst hy;exact tY
   ·show(elsOf X++[Y]).map rowAbs=_
    rw[List.map_append]
    rfl
  ·exact⟨.nil,g,.gsl (gtok g 1 1).toks.length 1 [Y],gtok (gtok g 1 1) 1 1,λQf h=>rowClone_nil g Qf h,.nil _ (by rw[undRows];rfl),rfl,rfl,.gsl _ _ _ _ _ undRows szRow (fitR _ (by simp)) (by simpa using tY),rfl,kp_same rfl (by simp[gtok]) rfl⟩
 refine hcl _ ⟨D0,tD,rfl,⟨by show(elsOf D0).length+1≤2^40;omega,by show((elsOf D0).length+1)*24≤2^46;omega⟩,Z,G,hga,?_⟩
 refine may_ok hl tZ _ λg' k=>⟨_,rfl,?_⟩
 rw[habs]
 have kk:=kA.trans k
 rw[←hYl]
 refine Br_iff.2 ⟨λq=>?_,λq=>?_⟩
 ·have hh:=hQ g' kk
  have q:mayB (DD l) (rowsAbs X++[rowAbs Y]) (rowAbs Y).length=false:=by simpa using q
  have ea:usefulF (DD l) (rowsAbs X) (rowAbs Y)=(false,1):=by unfold usefulF;rw[q];rfl
  rw[ea] at hh
  exact hh
 ·have q:mayB (DD l) (rowsAbs X++[rowAbs Y]) (rowAbs Y).length=true:=by simpa using q
  refine asked_ok hl hF tX tY (mayB_inv q (by omega)) _ λg'' k''=>⟨_,_,⟨rfl,rfl,trivial⟩,?_⟩
  have hh:=hQ g'' (kk.trans k'')
  have ea:usefulF (DD l) (rowsAbs X) (rowAbs Y)=askedF (DD l) (rowsAbs X) (rowAbs Y):=by unfold usefulF;rw[q];rfl
  rw[ea] at hh
  exact hh
theorem column_ok{x:Dat}{g:Glob}(tx:HasTy TT 24 x)(Qf:OGP)(hQ:∀v X,HasTy TT 86 X→RetV v X→(elsOf X≠[]∨X=.nil)→rowsAbs X=(rowAbs x).map (λp=>[p])→Qf (.val v) g):EvF TT 43 [x] g Qf:=by
 have ex:=tx.els undPats
 have exl:=ex.1.1
 have fitR:∀n,n≤2^40→SlFit TT 24 n:=λn h=>⟨by omega,λb' hb'=>by rw[byRow] at hb';cases hb';omega⟩
 refine w43 tx ?_
 refine loopUp (len:=(elsOf x).length) (λi=>∀l:List Dat,l.length=i→(∀y∈l,HasTy TT 24 y)→l.map rowAbs=((elsOf x).take i).map (λy=>[absPt y])→L43_3 l x ((elsOf x).length:Int) (i:Int) g Qf) ?_ ?_ 0 (Nat.zero_le _) [] rfl (λy h=>by cases h) rfl
 ·intro l h1 h2 h3
  refine w43_3 ?_
  rw[Br_ge]
  rw[List.take_length] at h3
  refine hQ _ (slOf 1 l) (slOf_ty undRows szRow (fitR _ (by omega)) h2) (retOf_ret _ _) (by cases l with|nil=>exact .inr rfl|cons a l=>exact .inl (by simp[slOf,elsOf])) ?_
  unfold rowsAbs
  rw[slOf_els,h3]
  unfold rowAbs
  rw[List.map_map]
  rfl
 ·intro i hi ih l h1 h2 h3
  refine w43_3 ?_
  rw[Br_lt hi,getE_nat hi,wrap_nat (by omega)]
  refine⟨inB hi,((fitR _ (by simp;omega)).fits byRow),ih _ (by simp[h1]) (λy hy=>?_) ?_⟩
  ·rcases List.mem_append.1 hy with hy|hy
   ·exact h2 y hy
   ·simp only[List.mem_singleton] at hy
    subst hy
    exact tyPats_sl (fitP (by simp)) (by simpa using ex.2 _ (List.getElem_mem hi))
  ·rw[List.map_append,h3,List.take_succ,List.getElem?_eq_getElem hi,List.map_append]
   rfl
def colOf(ps:List Pt):List (List Pt):=ps.map λp=>[p]
def exhF(D:List Dc)(ps:List Pt):Bool×Int:=(!(usefulF D (colOf ps) [anyP]).1&&(usefulF D (colOf ps) [anyP]).2==0,(usefulF D (colOf ps) [anyP]).2)
theorem exh_all{l x:Dat}{g:Glob}(hl:HasTy TT 22 l)(hF:FewF (DD l) 2097152)(tx:HasTy TT 24 x)(hnl:(elsOf x).length≤2^30)(Qf:OGP)
 (hQ:∀g',Kp [] 0 g g'→Qf (outBE (exhF (DD l) (rowAbs x)).1 (exhF (DD l) (rowAbs x)).2) g'):EvF TT 16 [l,x] g Qf:=by
 refine w16 hl tx (column_ok tx _ λv X tX hv h0 hX=>⟨X,tX,hv,?_⟩)
 have t1:=ty_anys (n:=1) (fitP (by omega))
 have hXl:(elsOf X).length=(elsOf x).length:=by
  have:=congrArg List.length hX
  simpa[rowsAbs,rowAbs] using this
 refine wild_ok (n:=1) (by omega) g _ ⟨_,t1,rfl,?_⟩
 refine useful_ok hl hF tX t1 h0 (by omega) (by simp[elsOf]) _ λg' k=>⟨_,_,⟨rfl,rfl,trivial⟩,?_⟩
 have hh:=hQ g' k
 have e1:rowAbs (.sl 5 (List.replicate 1 anyPat))=[anyP]:=rowAbs_any 1
 rw[hX,e1]
 unfold exhF colOf at hh
 refine Br_iff.2 ⟨λq=>?_,λq=>?_⟩
 ·rw[q,Bool.true_and] at hh;exact hh
 ·rw[q,Bool.false_and] at hh;exact hh
end Go.Proofs.YtiheejdkkjfenaaGreatDoor.Pa
