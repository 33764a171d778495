/- What functions of the program do, printed by wip/tools/sx/sx.py. Nothing of this seat. The program's parser: its state, its small steps. -/
import Derived.Test.YtmlghadphdpbjaaGreatDoorRJ
set_option linter.all false
set_option autoImplicit false
set_option maxRecDepth 100000
namespace Go.Proofs.YtmlghadphdpbjaaGreatDoor.Pa
open Go Go.Proofs.YtmlghadphdpbjaaGreatDoor.Am
def lo77:List CutI:=[]
theorem w77{p0:Nat}{s1:List UInt8}{g:Glob}{Qf:OGP}(h1:s1.length≤2^40)
 (h:EvF TT 120 [.ptr (some (p0,0)),.int .i64 5,.str s1] g (KQ Qf λv g'=>∃b,v=.d (.bool b)∧Qf (.val (.d (.bool b))) g')):
 EvF TT 77 [.ptr (some (p0,0)),.str s1] g Qf:=
 sx_fun (rk:=rk) (fn:=Tryz.f77) (loops:=lo77) (joins:=[]) (n:=100000) (args:=[(114,.ptr (some (p0,0))),(9,.str s1)]) rfl rfl rfl rfl ⟨tyPtr rfl,tyStr rfl h1,trivial⟩ (by kernel_rfl) h
def L78_4(p0:Nat)(y3:Dat)(y2:Dat)(g:Glob)(Qf:OGP):Prop:=CutP TT Tryz.f78 [1,1,1,1,0,0] Qf (mkC TT 78 Tryz.f78 1 [(0,.v 114 (.ptr (some (p0,0)))),(2,.loc 2 0 0),(3,.loc 3 0 0)] [(3,.whole 50 y3),(2,.whole 50 y2)] g)
def L78_7(p0:Nat)(y3:Dat)(y2:Dat)(g:Glob)(Qf:OGP):Prop:=CutP TT Tryz.f78 [1,1,1,1,1,1,0,0] Qf (mkC TT 78 Tryz.f78 1 [(0,.v 114 (.ptr (some (p0,0)))),(2,.loc 2 0 0),(3,.loc 3 0 0)] [(3,.whole 50 y3),(2,.whole 50 y2)] g)
def L78_8(p0:Nat)(y4:Dat)(y3:Dat)(y2:Dat)(g:Glob)(Qf:OGP):Prop:=CutP TT Tryz.f78 [1,1,1,1,1,1,0,0,0,0,1,0,0] Qf (mkC TT 78 Tryz.f78 1 [(0,.v 114 (.ptr (some (p0,0)))),(2,.loc 2 0 0),(3,.loc 3 0 0),(4,.loc 4 0 0)] [(4,.whole 52 y4),(3,.whole 50 y3),(2,.whole 50 y2)] g)
def lo78:List CutI:=[⟨4,[(0,.keep),(2,.keep),(3,.keep)],[(3,.whole 50),(2,.whole 50)]⟩,⟨7,[(0,.keep),(2,.keep),(3,.keep)],[(3,.whole 50),(2,.whole 50)]⟩,⟨8,[(0,.keep),(2,.keep),(3,.keep),(4,.keep)],[(4,.whole 52),(3,.whole 50),(2,.whole 50)]⟩]
theorem w78{p0:Nat}{g:Glob}{Qf:OGP}
 (h:EvF TT 121 [.ptr (some (p0,0))] g (KQ Qf λv g'=>∃x,HasTy TT 109 x∧v=.d x∧EvF TT 122 [.ptr (some (p0,0)),.int .i64 5,.str [116,121,112,101]] g' (KQ Qf λv g'=>RetT v []∧EvF TT 123 [.ptr (some (p0,0)),.int .i64 1] g' (KQ Qf λv g'=>∃x_1,HasTy TT 109 x_1∧v=.d x_1∧L78_4 p0 (.agg [.str (strOf (fld x_1 1)),.nil,.nil,.int .i64 (intOf (.int .i64 (intOf (fld x 3))))]) (.agg [.str [],.nil,.nil,.int .i64 0]) g' Qf)))):
 EvF TT 78 [.ptr (some (p0,0))] g Qf:=
 sx_fun (rk:=rk) (fn:=Tryz.f78) (loops:=lo78) (joins:=[]) (n:=100000) (args:=[(114,.ptr (some (p0,0)))]) rfl rfl rfl rfl ⟨tyPtr rfl,trivial⟩ (by kernel_rfl) h
theorem w78_4{p0:Nat}{y3:Dat}{y2:Dat}{g:Glob}{Qf:OGP}
 (h:EvF TT 121 [.ptr (some (p0,0))] g (KQ Qf λv g'=>∃x,HasTy TT 109 x∧v=.d x∧Br (intOf (fld x 0)==3) (EvF TT 123 [.ptr (some (p0,0)),.int .i64 3] g' (KQ Qf λv g'=>∃x,HasTy TT 109 x∧v=.d x∧Fits ((elsOf (fld y3 1)).length+[Dat.str (strOf (fld x 1))].length) 16∧∃r g'_1,gapp 1 (fld y3 1) [.str (strOf (fld x 1))] (gtok g' 1 1)=some (r,g'_1)∧L78_4 p0 (.agg [.str (strOf (fld y3 0)),r,fld y3 2,.int .i64 (intOf (fld y3 3))]) y2 g'_1 Qf)) (EvF TT 122 [.ptr (some (p0,0)),.int .i64 6,.str [61]] g' (KQ Qf λv g'=>RetT v []∧L78_7 p0 y3 y2 g' Qf)))):
 L78_4 p0 y3 y2 g Qf:=sx_cut (rk:=rk) (loops:=lo78) (joins:=[]) (n:=100000) (by kernel_rfl) h
theorem w78_7{p0:Nat}{y3:Dat}{y2:Dat}{g:Glob}{Qf:OGP}
 (h:EvF TT 123 [.ptr (some (p0,0)),.int .i64 2] g (KQ Qf λv g'=>∃x,HasTy TT 109 x∧v=.d x∧L78_8 p0 (.agg [.str (strOf (fld x 1)),.nil]) y3 y2 g' Qf)):
 L78_7 p0 y3 y2 g Qf:=sx_cut (rk:=rk) (loops:=lo78) (joins:=[]) (n:=100000) (by kernel_rfl) h
theorem w78_8{p0:Nat}{y4:Dat}{y3:Dat}{y2:Dat}{g:Glob}{Qf:OGP}
 (h:EvF TT 124 [.ptr (some (p0,0))] g (KQ Qf λv g'=>∃b,v=.d (.bool b)∧Br b (EvF TT 125 [.ptr (some (p0,0))] g' (KQ Qf λv g'=>∃x,HasTy TT 28 x∧v=.d x∧Fits ((elsOf (fld y4 1)).length+[x].length) 56∧∃r g'_1,gapp 4 (fld y4 1) [x] (gtok g' 4 1)=some (r,g'_1)∧L78_8 p0 (.agg [.str (strOf (fld y4 0)),r]) y3 y2 g'_1 Qf)) (Fits ((elsOf (fld y3 2)).length+[y4].length) 40∧∃r g'_1,gapp 2 (fld y3 2) [y4] (gtok g' 2 1)=some (r,g'_1)∧EvF TT 126 [.ptr (some (p0,0)),.str [124]] g'_1 (KQ Qf λv g'=>∃b,v=.d (.bool b)∧Br (!b) (EvF TT 122 [.ptr (some (p0,0)),.int .i64 6,.str [59]] g' (KQ Qf λv g'=>RetT v []∧Qf (.val (.d (.agg [.str (strOf (.str (strOf (fld y3 0)))),fld (.agg [.str (strOf (fld y3 0)),fld y3 1,r,.int .i64 (intOf (fld y3 3))]) 1,r,.int .i64 (intOf (.int .i64 (intOf (fld y3 3))))]))) g')) (∃n,GOk TT 3 g' p0 1 (.int .i64 n)∧GPut g' p0 1 1∧L78_7 p0 (.agg [.str (strOf (fld y3 0)),fld y3 1,r,.int .i64 (intOf (fld y3 3))]) y2 (gput g' p0 1 (.int .i64 (IntKind.i64.wrap (n+1)))) Qf))))):
 L78_8 p0 y4 y3 y2 g Qf:=sx_cut (rk:=rk) (loops:=lo78) (joins:=[]) (n:=100000) (by kernel_rfl) h
def lo79:List CutI:=[]
theorem w79{p0:Nat}{g:Glob}{Qf:OGP}
 (h:EvF TT 121 [.ptr (some (p0,0))] g λout g'=>
 Outc (λx=>Qf (.panic x) g')
  (λv=>
   ∃x,
    HasTy TT 109 x∧
     v=.d x∧
      EvF TT 77 [.ptr (some (p0,0)),.str [102,117,110]] g' λout g'=>
       Outc (λx=>Qf (.panic x) g')
        (λv=>
         ∃b,
          v=.d (.bool b)∧
           Br b (∃n,GOk TT 3 g' p0 1 (.int .i64 n)∧GPut g' p0 1 1∧EvF TT 123 [.ptr (some (p0,0)),.int .i64 1] (gput g' p0 1 (.int .i64 (IntKind.i64.wrap (n+1)))) (KQ Qf λv g'=>∃x_1,HasTy TT 109 x_1∧v=.d x_1∧EvF TT 122 [.ptr (some (p0,0)),.int .i64 6,.str [45,62]] g' (KQ Qf λv g'=>RetT v []∧EvF TT 79 [.ptr (some (p0,0))] g' (KQ Qf λv g'=>∃x_2,HasTy TT 25 x_2∧v=.d x_2∧Qf (.val (.d (.agg [.int .i64 (intOf (.int .i64 3)),.str (strOf (.str (strOf (fld x_1 1)))),.str [],.int .i64 (intOf (.int .i64 (intOf (.int .i64 0)))),.sl 7 [x_2],.nil,.int .i64 (intOf (.int .i64 (intOf (.int .i64 (intOf (fld x 3))))))]))) g'))))
            (EvF TT 77 [.ptr (some (p0,0)),.str [108,101,116]] g' (KQ Qf λv g'=>∃b,v=.d (.bool b)∧Br b (EvF TT 127 [.ptr (some (p0,0)),.agg [.int .i64 0,.str [],.str [],.int .i64 0,.nil,.nil,.int .i64 (intOf (fld x 3))]] g' (KQ Qf λv g'=>∃x,HasTy TT 25 x∧v=.d x∧Qf (.val (.d (.agg [.int .i64 (intOf (fld x 0)),.str (strOf (fld x 1)),.str (strOf (fld x 2)),.int .i64 (intOf (fld x 3)),fld x 4,fld x 5,.int .i64 (intOf (fld x 6))]))) g')) (EvF TT 77 [.ptr (some (p0,0)),.str [105,102]] g' (KQ Qf λv g'=>∃b,v=.d (.bool b)∧Br b (EvF TT 128 [.ptr (some (p0,0)),.agg [.int .i64 0,.str [],.str [],.int .i64 0,.nil,.nil,.int .i64 (intOf (fld x 3))]] g' (KQ Qf λv g'=>∃x,HasTy TT 25 x∧v=.d x∧Qf (.val (.d (.agg [.int .i64 (intOf (fld x 0)),.str (strOf (fld x 1)),.str (strOf (fld x 2)),.int .i64 (intOf (fld x 3)),fld x 4,fld x 5,.int .i64 (intOf (fld x 6))]))) g')) (EvF TT 77 [.ptr (some (p0,0)),.str [99,97,115,101]] g' (KQ Qf λv g'=>∃b,v=.d (.bool b)∧Br b (EvF TT 129 [.ptr (some (p0,0)),.agg [.int .i64 0,.str [],.str [],.int .i64 0,.nil,.nil,.int .i64 (intOf (fld x 3))]] g' (KQ Qf λv g'=>∃x,HasTy TT 25 x∧v=.d x∧Qf (.val (.d (.agg [.int .i64 (intOf (fld x 0)),.str (strOf (fld x 1)),.str (strOf (fld x 2)),.int .i64 (intOf (fld x 3)),fld x 4,fld x 5,.int .i64 (intOf (fld x 6))]))) g')) (EvF TT 130 [.ptr (some (p0,0)),.int .i64 0] g' (KQ Qf λv g'=>∃x,HasTy TT 25 x∧v=.d x∧EvF TT 126 [.ptr (some (p0,0)),.str [59]] g' (KQ Qf λv g'=>∃b,v=.d (.bool b)∧Br (!b) (Qf (.val (.d (.agg [.int .i64 (intOf (fld x 0)),.str (strOf (fld x 1)),.str (strOf (fld x 2)),.int .i64 (intOf (fld x 3)),fld x 4,fld x 5,.int .i64 (intOf (fld x 6))]))) g') (∃n,GOk TT 3 g' p0 1 (.int .i64 n)∧GPut g' p0 1 1∧EvF TT 79 [.ptr (some (p0,0))] (gput g' p0 1 (.int .i64 (IntKind.i64.wrap (n+1)))) (KQ Qf λv g'=>∃x_1,HasTy TT 25 x_1∧v=.d x_1∧Qf (.val (.d (.agg [.int .i64 (intOf (.int .i64 7)),.str [],.str [],.int .i64 (intOf (.int .i64 0)),.sl 7 [x,x_1],.sl 5 [.agg [.int .i64 4,.str [85,110,105,116],.int .i64 0,.nil,.int .i64 (intOf (fld x 6))]],.int .i64 (intOf (.int .i64 (intOf (fld x 6))))]))) g'))))))))))))
        out)
  out):
  EvF TT 79 [.ptr (some (p0,0))] g Qf:=
 sx_fun (rk:=rk) (fn:=Tryz.f79) (loops:=lo79) (joins:=[]) (n:=100000) (args:=[(114,.ptr (some (p0,0)))]) rfl rfl rfl rfl ⟨tyPtr rfl,trivial⟩ (by kernel_rfl) h
def lo80:List CutI:=[]
theorem w80{p0:Nat}{b1:Bool}{g:Glob}{Qf:OGP}
 (h:Br (!b1) (EvF TT 121 [.ptr (some (p0,0))] g (KQ Qf λv g'=>∃x,HasTy TT 109 x∧v=.d x∧Qf (.panic (.iface 113 (.agg [.int .i64 (intOf (fld x 3))]))) g')) (Qf (.val (.tuple [])) g)):
 EvF TT 80 [.ptr (some (p0,0)),.bool b1] g Qf:=
 sx_fun (rk:=rk) (fn:=Tryz.f80) (loops:=lo80) (joins:=[]) (n:=100000) (args:=[(114,.ptr (some (p0,0))),(4,.bool b1)]) rfl rfl rfl rfl ⟨tyPtr rfl,tyBool rfl,trivial⟩ (by kernel_rfl) h
def lo120:List CutI:=[]
theorem w120{p0:Nat}{n1:Int}{s2:List UInt8}{g:Glob}{Qf:OGP}(h2:s2.length≤2^40)
 (h:EvF TT 121 [.ptr (some (p0,0))] g (KQ Qf λv g'=>∃x,HasTy TT 109 x∧v=.d x∧Br (intOf (fld x 0)==n1) (Qf (.val (.d (.bool (strOf (fld x 1)==s2)))) g') (Qf (.val (.d (.bool false))) g'))):
 EvF TT 120 [.ptr (some (p0,0)),.int .i64 n1,.str s2] g Qf:=
 sx_fun (rk:=rk) (fn:=Tryz.f120) (loops:=lo120) (joins:=[]) (n:=100000) (args:=[(114,.ptr (some (p0,0))),(3,.int .i64 n1),(9,.str s2)]) rfl rfl rfl rfl ⟨tyPtr rfl,tyInt rfl,tyStr rfl h2,trivial⟩ (by kernel_rfl) h
def lo121:List CutI:=[]
theorem w121{p0:Nat}{g:Glob}{Qf:OGP}
 (h:∃n,GOk TT 3 g p0 1 (.int .i64 n)∧∃x,HasTy TT 80 x∧GOk TT 80 g p0 0 x∧Br (decide (n<(↑(elsOf x).length:Int))) (∃x,HasTy TT 80 x∧GOk TT 80 g p0 0 x∧∃n,GOk TT 3 g p0 1 (.int .i64 n)∧InB n (elsOf x).length∧Qf (.val (.d (.agg [.int .i64 (intOf (fld (getE (elsOf x) n) 0)),.str (strOf (fld (getE (elsOf x) n) 1)),.int .i64 (intOf (fld (getE (elsOf x) n) 2)),.int .i64 (intOf (fld (getE (elsOf x) n) 3))]))) g) (∃n,GOk TT 3 g p0 2 (.int .i64 n)∧Qf (.val (.d (.agg [.int .i64 (intOf (.int .i64 0)),.str [],.int .i64 (intOf (.int .i64 0)),.int .i64 (intOf (.int .i64 n))]))) g)):
 EvF TT 121 [.ptr (some (p0,0))] g Qf:=
 sx_fun (rk:=rk) (fn:=Tryz.f121) (loops:=lo121) (joins:=[]) (n:=100000) (args:=[(114,.ptr (some (p0,0)))]) rfl rfl rfl rfl ⟨tyPtr rfl,trivial⟩ (by kernel_rfl) h
def lo122:List CutI:=[]
theorem w122{p0:Nat}{n1:Int}{s2:List UInt8}{g:Glob}{Qf:OGP}(h2:s2.length≤2^40)
 (h:EvF TT 120 [.ptr (some (p0,0)),.int .i64 n1,.str s2] g (KQ Qf λv g'=>∃b,v=.d (.bool b)∧EvF TT 80 [.ptr (some (p0,0)),.bool b] g' (KQ Qf λv g'=>RetT v []∧∃n,GOk TT 3 g' p0 1 (.int .i64 n)∧GPut g' p0 1 1∧Qf (.val (.tuple [])) (gput g' p0 1 (.int .i64 (IntKind.i64.wrap (n+1))))))):
 EvF TT 122 [.ptr (some (p0,0)),.int .i64 n1,.str s2] g Qf:=
 sx_fun (rk:=rk) (fn:=Tryz.f122) (loops:=lo122) (joins:=[]) (n:=100000) (args:=[(114,.ptr (some (p0,0))),(3,.int .i64 n1),(9,.str s2)]) rfl rfl rfl rfl ⟨tyPtr rfl,tyInt rfl,tyStr rfl h2,trivial⟩ (by kernel_rfl) h
def lo123:List CutI:=[]
theorem w123{p0:Nat}{n1:Int}{g:Glob}{Qf:OGP}
 (h:EvF TT 121 [.ptr (some (p0,0))] g (KQ Qf λv g'=>∃x,HasTy TT 109 x∧v=.d x∧EvF TT 80 [.ptr (some (p0,0)),.bool (intOf (fld x 0)==n1)] g' (KQ Qf λv g'=>RetT v []∧∃n,GOk TT 3 g' p0 1 (.int .i64 n)∧GPut g' p0 1 1∧Qf (.val (.d (.agg [.int .i64 (intOf (fld x 0)),.str (strOf (fld x 1)),.int .i64 (intOf (fld x 2)),.int .i64 (intOf (fld x 3))]))) (gput g' p0 1 (.int .i64 (IntKind.i64.wrap (n+1))))))):
 EvF TT 123 [.ptr (some (p0,0)),.int .i64 n1] g Qf:=
 sx_fun (rk:=rk) (fn:=Tryz.f123) (loops:=lo123) (joins:=[]) (n:=100000) (args:=[(114,.ptr (some (p0,0))),(3,.int .i64 n1)]) rfl rfl rfl rfl ⟨tyPtr rfl,tyInt rfl,trivial⟩ (by kernel_rfl) h
def lo124:List CutI:=[]
theorem w124{p0:Nat}{g:Glob}{Qf:OGP}
 (h:EvF TT 121 [.ptr (some (p0,0))] g (KQ Qf λv g'=>∃x,HasTy TT 109 x∧v=.d x∧Br (intOf (fld x 0)==1) (Qf (.val (.d (.bool true))) g') (Br (intOf (fld x 0)==3) (Qf (.val (.d (.bool true))) g') (EvF TT 126 [.ptr (some (p0,0)),.str [40]] g' (KQ Qf λv g'=>∃b,v=.d (.bool b)∧Qf (.val (.d (.bool b))) g'))))):
 EvF TT 124 [.ptr (some (p0,0))] g Qf:=
 sx_fun (rk:=rk) (fn:=Tryz.f124) (loops:=lo124) (joins:=[]) (n:=100000) (args:=[(114,.ptr (some (p0,0)))]) rfl rfl rfl rfl ⟨tyPtr rfl,trivial⟩ (by kernel_rfl) h
def lo125:List CutI:=[]
theorem w125{p0:Nat}{g:Glob}{Qf:OGP}
 (h:EvF TT 121 [.ptr (some (p0,0))] g (KQ Qf λv g'=>∃x,HasTy TT 109 x∧v=.d x∧Br (intOf (fld x 0)==1) (∃n,GOk TT 3 g' p0 1 (.int .i64 n)∧GPut g' p0 1 1∧Br (strOf (fld x 1)==[105,110,116]) (Qf (.val (.d (.agg [.int .i64 1,.str [],.int .i64 0,.nil]))) (gput g' p0 1 (.int .i64 (IntKind.i64.wrap (n+1))))) (Qf (.val (.d (.agg [.int .i64 (intOf (.int .i64 4)),.str (strOf (.str (strOf (fld x 1)))),.int .i64 (intOf (.int .i64 0)),.nil]))) (gput g' p0 1 (.int .i64 (IntKind.i64.wrap (n+1)))))) (Br (intOf (fld x 0)==3) (∃n,GOk TT 3 g' p0 1 (.int .i64 n)∧GPut g' p0 1 1∧Qf (.val (.d (.agg [.int .i64 (intOf (.int .i64 2)),.str (strOf (.str (strOf (fld x 1)))),.int .i64 (intOf (.int .i64 0)),.nil]))) (gput g' p0 1 (.int .i64 (IntKind.i64.wrap (n+1))))) (EvF TT 122 [.ptr (some (p0,0)),.int .i64 6,.str [40]] g' (KQ Qf λv g'=>RetT v []∧EvF TT 158 [.ptr (some (p0,0))] g' (KQ Qf λv g'=>∃x,HasTy TT 28 x∧v=.d x∧EvF TT 122 [.ptr (some (p0,0)),.int .i64 6,.str [41]] g' (KQ Qf λv g'=>RetT v []∧Qf (.val (.d (.agg [.int .i64 (intOf (fld x 0)),.str (strOf (fld x 1)),.int .i64 (intOf (fld x 2)),fld x 3]))) g'))))))):
 EvF TT 125 [.ptr (some (p0,0))] g Qf:=
 sx_fun (rk:=rk) (fn:=Tryz.f125) (loops:=lo125) (joins:=[]) (n:=100000) (args:=[(114,.ptr (some (p0,0)))]) rfl rfl rfl rfl ⟨tyPtr rfl,trivial⟩ (by kernel_rfl) h
def lo126:List CutI:=[]
theorem w126{p0:Nat}{s1:List UInt8}{g:Glob}{Qf:OGP}(h1:s1.length≤2^40)
 (h:EvF TT 120 [.ptr (some (p0,0)),.int .i64 6,.str s1] g (KQ Qf λv g'=>∃b,v=.d (.bool b)∧Qf (.val (.d (.bool b))) g')):
 EvF TT 126 [.ptr (some (p0,0)),.str s1] g Qf:=
 sx_fun (rk:=rk) (fn:=Tryz.f126) (loops:=lo126) (joins:=[]) (n:=100000) (args:=[(114,.ptr (some (p0,0))),(9,.str s1)]) rfl rfl rfl rfl ⟨tyPtr rfl,tyStr rfl h1,trivial⟩ (by kernel_rfl) h
def lo127:List CutI:=[]
theorem w127{p0:Nat}{x1:Dat}{g:Glob}{Qf:OGP}(h1:HasTy TT 25 x1)
 (h:∃n,GOk TT 3 g p0 1 (.int .i64 n)∧GPut g p0 1 1∧EvF TT 77 [.ptr (some (p0,0)),.str [114,101,99]] (gput g p0 1 (.int .i64 (IntKind.i64.wrap (n+1)))) (KQ Qf λv g'=>∃b,v=.d (.bool b)∧Br b (∃n,GOk TT 3 g' p0 1 (.int .i64 n)∧GPut g' p0 1 1∧EvF TT 123 [.ptr (some (p0,0)),.int .i64 1] (gput g' p0 1 (.int .i64 (IntKind.i64.wrap (n+1)))) (KQ Qf λv g'=>∃x,HasTy TT 109 x∧v=.d x∧EvF TT 123 [.ptr (some (p0,0)),.int .i64 1] g' (KQ Qf λv g'=>∃x_1,HasTy TT 109 x_1∧v=.d x_1∧EvF TT 122 [.ptr (some (p0,0)),.int .i64 6,.str [61]] g' (KQ Qf λv g'=>RetT v []∧EvF TT 79 [.ptr (some (p0,0))] g' (KQ Qf λv g'=>∃x_2,HasTy TT 25 x_2∧v=.d x_2∧Fits ((elsOf (fld x1 4)).length+[x_2].length) 104∧∃r g'_1,gapp 7 (fld x1 4) [x_2] (gtok g' 7 1)=some (r,g'_1)∧EvF TT 122 [.ptr (some (p0,0)),.int .i64 5,.str [105,110]] g'_1 (KQ Qf λv g'=>RetT v []∧EvF TT 79 [.ptr (some (p0,0))] g' (KQ Qf λv g'=>∃x_3,HasTy TT 25 x_3∧v=.d x_3∧Fits ((elsOf r).length+[x_3].length) 104∧∃r_1 g'_2,gapp 7 r [x_3] (gtok g' 7 1)=some (r_1,g'_2)∧Qf (.val (.d (.agg [.int .i64 (intOf (.int .i64 6)),.str (strOf (.str (strOf (fld x 1)))),.str (strOf (.str (strOf (fld x_1 1)))),.int .i64 (intOf (.int .i64 (intOf (fld x1 3)))),r_1,fld (.agg [.int .i64 6,.str (strOf (fld x 1)),.str (strOf (fld x_1 1)),.int .i64 (intOf (fld x1 3)),r_1,fld x1 5,.int .i64 (intOf (fld x1 6))]) 5,.int .i64 (intOf (.int .i64 (intOf (fld x1 6))))]))) g'_2))))))) (EvF TT 123 [.ptr (some (p0,0)),.int .i64 1] g' (KQ Qf λv g'=>∃x,HasTy TT 109 x∧v=.d x∧EvF TT 122 [.ptr (some (p0,0)),.int .i64 6,.str [61]] g' (KQ Qf λv g'=>RetT v []∧EvF TT 79 [.ptr (some (p0,0))] g' (KQ Qf λv g'=>∃x_1,HasTy TT 25 x_1∧v=.d x_1∧Fits ((elsOf (fld x1 4)).length+[x_1].length) 104∧∃r g'_1,gapp 7 (fld x1 4) [x_1] (gtok g' 7 1)=some (r,g'_1)∧EvF TT 122 [.ptr (some (p0,0)),.int .i64 5,.str [105,110]] g'_1 (KQ Qf λv g'=>RetT v []∧EvF TT 79 [.ptr (some (p0,0))] g' (KQ Qf λv g'=>∃x_2,HasTy TT 25 x_2∧v=.d x_2∧Fits ((elsOf r).length+[x_2].length) 104∧∃r_1 g'_2,gapp 7 r [x_2] (gtok g' 7 1)=some (r_1,g'_2)∧Qf (.val (.d (.agg [.int .i64 (intOf (.int .i64 5)),.str (strOf (.str (strOf (fld x 1)))),.str (strOf (.str (strOf (fld x1 2)))),.int .i64 (intOf (.int .i64 (intOf (fld x1 3)))),r_1,fld (.agg [.int .i64 5,.str (strOf (fld x 1)),.str (strOf (fld x1 2)),.int .i64 (intOf (fld x1 3)),r_1,fld x1 5,.int .i64 (intOf (fld x1 6))]) 5,.int .i64 (intOf (.int .i64 (intOf (fld x1 6))))]))) g'_2)))))))):
 EvF TT 127 [.ptr (some (p0,0)),x1] g Qf:=
 sx_fun (rk:=rk) (fn:=Tryz.f127) (loops:=lo127) (joins:=[]) (n:=100000) (args:=[(114,.ptr (some (p0,0))),(25,x1)]) rfl rfl rfl rfl ⟨tyPtr rfl,h1,trivial⟩ (by kernel_rfl) h
def L128_3(p0:Nat)(x10:Dat)(n11:Int)(n12:Int)(y4:Dat)(y3:Dat)(g:Glob)(Qf:OGP):Prop:=CutP TT Tryz.f128 [1,1,0,1,0] Qf (mkC TT 128 Tryz.f128 2 [(0,.v 114 (.ptr (some (p0,0)))),(3,.loc 3 0 0),(4,.loc 4 0 0),(10,.v 47 (x10)),(11,.v 3 (.int .i64 n11)),(12,.v 3 (.int .i64 n12))] [(4,.whole 25 y4),(3,.whole 25 y3)] g)
def L128_9(x27:Dat)(n28:Int)(n29:Int)(y4:Dat)(y3:Dat)(g:Glob)(Qf:OGP):Prop:=CutP TT Tryz.f128 [1,1,1,0,1,0] Qf (mkC TT 128 Tryz.f128 2 [(3,.loc 3 0 0),(4,.loc 4 0 0),(27,.v 47 (x27)),(28,.v 3 (.int .i64 n28)),(29,.v 3 (.int .i64 n29))] [(4,.whole 25 y4),(3,.whole 25 y3)] g)
def lo128:List CutI:=[⟨3,[(0,.keep),(3,.keep),(4,.keep),(10,.keep),(11,.keep),(12,.keep)],[(4,.whole 25),(3,.whole 25)]⟩,⟨9,[(3,.keep),(4,.keep),(27,.keep),(28,.keep),(29,.keep)],[(4,.whole 25),(3,.whole 25)]⟩]
theorem w128{p0:Nat}{x1:Dat}{g:Glob}{Qf:OGP}(h1:HasTy TT 25 x1)
 (h:L128_3 p0 (.gsl g.toks.length 1 [.str [105,102],.str [116,104,101,110],.str [101,108,115,101]]) (↑[Dat.str [105,102],Dat.str [116,104,101,110],Dat.str [101,108,115,101]].length:Int) 0 (.agg [.int .i64 0,.str [],.str [],.int .i64 0,.nil,.nil,.int .i64 0]) (.agg [.int .i64 7,.str (strOf (fld x1 1)),.str (strOf (fld x1 2)),.int .i64 (intOf (fld x1 3)),fld x1 4,fld x1 5,.int .i64 (intOf (fld x1 6))]) (gtok g 1 3) Qf):
 EvF TT 128 [.ptr (some (p0,0)),x1] g Qf:=
 sx_fun (rk:=rk) (fn:=Tryz.f128) (loops:=lo128) (joins:=[]) (n:=100000) (args:=[(114,.ptr (some (p0,0))),(25,x1)]) rfl rfl rfl rfl ⟨tyPtr rfl,h1,trivial⟩ (by kernel_rfl) h
theorem w128_3{p0:Nat}{x10:Dat}{n11:Int}{n12:Int}{y4:Dat}{y3:Dat}{g:Glob}{Qf:OGP}
 (h:Br (decide (n12<n11)) (InB n12 (elsOf x10).length∧EvF TT 122 [.ptr (some (p0,0)),.int .i64 5,.str (strOf (fld (getE (elsOf x10) n12) 0))] g (KQ Qf λv g'=>RetT v []∧EvF TT 79 [.ptr (some (p0,0))] g' (KQ Qf λv g'=>∃x,HasTy TT 25 x∧v=.d x∧Fits ((elsOf (fld y3 4)).length+[x].length) 104∧∃r g'_1,gapp 7 (fld y3 4) [x] (gtok g' 7 1)=some (r,g'_1)∧L128_3 p0 x10 n11 (IntKind.i64.wrap (n12+1)) y4 (.agg [.int .i64 (intOf (fld y3 0)),.str (strOf (fld y3 1)),.str (strOf (fld y3 2)),.int .i64 (intOf (fld y3 3)),r,fld y3 5,.int .i64 (intOf (fld y3 6))]) g'_1 Qf))) (L128_9 (.gsl g.toks.length 1 [.str [84,114,117,101],.str [70,97,108,115,101]]) (↑[Dat.str [84,114,117,101],Dat.str [70,97,108,115,101]].length:Int) 0 y4 y3 (gtok g 1 2) Qf)):
 L128_3 p0 x10 n11 n12 y4 y3 g Qf:=sx_cut (rk:=rk) (loops:=lo128) (joins:=[]) (n:=100000) (by kernel_rfl) h
theorem w128_9{x27:Dat}{n28:Int}{n29:Int}{y4:Dat}{y3:Dat}{g:Glob}{Qf:OGP}
 (h:Br (decide (n29<n28)) (InB n29 (elsOf x27).length∧Fits ((elsOf (fld y3 5)).length+[Dat.agg [.int .i64 4,.str (strOf (fld (getE (elsOf x27) n29) 0)),.int .i64 0,.nil,.int .i64 (intOf (fld y3 6))]].length) 64∧∃r g',gapp 5 (fld y3 5) [.agg [.int .i64 4,.str (strOf (fld (getE (elsOf x27) n29) 0)),.int .i64 0,.nil,.int .i64 (intOf (fld y3 6))]] (gtok g 5 1)=some (r,g')∧L128_9 x27 n28 (IntKind.i64.wrap (n29+1)) y4 (.agg [.int .i64 (intOf (fld y3 0)),.str (strOf (fld y3 1)),.str (strOf (fld y3 2)),.int .i64 (intOf (fld y3 3)),fld y3 4,r,.int .i64 (intOf (fld y3 6))]) g' Qf) (Qf (.val (.d (.agg [.int .i64 (intOf (fld y3 0)),.str (strOf (fld y3 1)),.str (strOf (fld y3 2)),.int .i64 (intOf (fld y3 3)),fld y3 4,fld y3 5,.int .i64 (intOf (fld y3 6))]))) g)):
 L128_9 x27 n28 n29 y4 y3 g Qf:=sx_cut (rk:=rk) (loops:=lo128) (joins:=[]) (n:=100000) (by kernel_rfl) h
def L129_5(p0:Nat)(y4:Dat)(y3:Dat)(g:Glob)(Qf:OGP):Prop:=CutP TT Tryz.f129 [1,1,1,1,1,0,0] Qf (mkC TT 129 Tryz.f129 2 [(0,.v 114 (.ptr (some (p0,0)))),(3,.loc 3 0 0),(4,.loc 4 0 0)] [(4,.whole 25 y4),(3,.whole 25 y3)] g)
def lo129:List CutI:=[⟨5,[(0,.keep),(3,.keep),(4,.keep)],[(4,.whole 25),(3,.whole 25)]⟩]
theorem w129{p0:Nat}{x1:Dat}{g:Glob}{Qf:OGP}(h1:HasTy TT 25 x1)
 (h:∃n,GOk TT 3 g p0 1 (.int .i64 n)∧GPut g p0 1 1∧EvF TT 79 [.ptr (some (p0,0))] (gput g p0 1 (.int .i64 (IntKind.i64.wrap (n+1)))) (KQ Qf λv g'=>∃x,HasTy TT 25 x∧v=.d x∧Fits ((elsOf (fld x1 4)).length+[x].length) 104∧∃r g'_1,gapp 7 (fld x1 4) [x] (gtok g' 7 1)=some (r,g'_1)∧EvF TT 122 [.ptr (some (p0,0)),.int .i64 5,.str [111,102]] g'_1 (KQ Qf λv g'=>RetT v []∧L129_5 p0 (.agg [.int .i64 0,.str [],.str [],.int .i64 0,.nil,.nil,.int .i64 0]) (.agg [.int .i64 7,.str (strOf (fld x1 1)),.str (strOf (fld x1 2)),.int .i64 (intOf (fld x1 3)),r,fld x1 5,.int .i64 (intOf (fld x1 6))]) g' Qf))):
 EvF TT 129 [.ptr (some (p0,0)),x1] g Qf:=
 sx_fun (rk:=rk) (fn:=Tryz.f129) (loops:=lo129) (joins:=[]) (n:=100000) (args:=[(114,.ptr (some (p0,0))),(25,x1)]) rfl rfl rfl rfl ⟨tyPtr rfl,h1,trivial⟩ (by kernel_rfl) h
theorem w129_5{p0:Nat}{y4:Dat}{y3:Dat}{g:Glob}{Qf:OGP}
 (h:EvF TT 159 [.ptr (some (p0,0))] g (KQ Qf λv g'=>∃x,HasTy TT 94 x∧v=.d x∧Fits ((elsOf (fld y3 5)).length+[x].length) 64∧∃r g'_1,gapp 5 (fld y3 5) [x] (gtok g' 5 1)=some (r,g'_1)∧EvF TT 122 [.ptr (some (p0,0)),.int .i64 6,.str [45,62]] g'_1 (KQ Qf λv g'=>RetT v []∧EvF TT 79 [.ptr (some (p0,0))] g' (KQ Qf λv g'=>∃x,HasTy TT 25 x∧v=.d x∧Fits ((elsOf (fld y3 4)).length+[x].length) 104∧∃r_1 g'_2,gapp 7 (fld y3 4) [x] (gtok g' 7 1)=some (r_1,g'_2)∧EvF TT 126 [.ptr (some (p0,0)),.str [124]] g'_2 (KQ Qf λv g'=>∃b,v=.d (.bool b)∧Br (!b) (EvF TT 122 [.ptr (some (p0,0)),.int .i64 5,.str [101,110,100]] g' (KQ Qf λv g'=>RetT v []∧Qf (.val (.d (.agg [.int .i64 (intOf (.int .i64 (intOf (fld y3 0)))),.str (strOf (.str (strOf (fld y3 1)))),.str (strOf (.str (strOf (fld y3 2)))),.int .i64 (intOf (.int .i64 (intOf (fld y3 3)))),r_1,r,.int .i64 (intOf (.int .i64 (intOf (fld y3 6))))]))) g')) (∃n,GOk TT 3 g' p0 1 (.int .i64 n)∧GPut g' p0 1 1∧L129_5 p0 y4 (.agg [.int .i64 (intOf (fld y3 0)),.str (strOf (fld y3 1)),.str (strOf (fld y3 2)),.int .i64 (intOf (fld y3 3)),r_1,r,.int .i64 (intOf (fld y3 6))]) (gput g' p0 1 (.int .i64 (IntKind.i64.wrap (n+1)))) Qf)))))):
 L129_5 p0 y4 y3 g Qf:=sx_cut (rk:=rk) (loops:=lo129) (joins:=[]) (n:=100000) (by kernel_rfl) h
def lo130:List CutI:=[]
theorem w130{p0:Nat}{n1:Int}{g:Glob}{Qf:OGP}
 (h:EvF TT 160 [] g (KQ Qf λv g'=>∃x,HasTy TT 165 x∧RetV v x∧InB n1 (elsOf x).length∧∃f c,fld (getE (elsOf x) n1) 0=.clo f c∧EvF TT f (.ptr (some (p0,0))::c) g' (KQ Qf λv g'=>∃x,HasTy TT 25 x∧v=.d x∧Qf (.val (.d (.agg [.int .i64 (intOf (fld x 0)),.str (strOf (fld x 1)),.str (strOf (fld x 2)),.int .i64 (intOf (fld x 3)),fld x 4,fld x 5,.int .i64 (intOf (fld x 6))]))) g'))):
 EvF TT 130 [.ptr (some (p0,0)),.int .i64 n1] g Qf:=
 sx_fun (rk:=rk) (fn:=Tryz.f130) (loops:=lo130) (joins:=[]) (n:=100000) (args:=[(114,.ptr (some (p0,0))),(3,.int .i64 n1)]) rfl rfl rfl rfl ⟨tyPtr rfl,tyInt rfl,trivial⟩ (by kernel_rfl) h
def lo158:List CutI:=[]
theorem w158{p0:Nat}{g:Glob}{Qf:OGP}
 (h:EvF TT 171 [.ptr (some (p0,0))] g (KQ Qf λv g'=>∃x,HasTy TT 28 x∧v=.d x∧EvF TT 126 [.ptr (some (p0,0)),.str [45,62]] g' (KQ Qf λv g'=>∃b,v=.d (.bool b)∧Br b (∃n,GOk TT 3 g' p0 1 (.int .i64 n)∧GPut g' p0 1 1∧EvF TT 158 [.ptr (some (p0,0))] (gput g' p0 1 (.int .i64 (IntKind.i64.wrap (n+1)))) (KQ Qf λv g'=>∃x_1,HasTy TT 28 x_1∧v=.d x_1∧Qf (.val (.d (.agg [.int .i64 (intOf (.int .i64 3)),.str [],.int .i64 (intOf (.int .i64 0)),.sl 4 [x,x_1]]))) g')) (Qf (.val (.d (.agg [.int .i64 (intOf (fld x 0)),.str (strOf (fld x 1)),.int .i64 (intOf (fld x 2)),fld x 3]))) g')))):
 EvF TT 158 [.ptr (some (p0,0))] g Qf:=
 sx_fun (rk:=rk) (fn:=Tryz.f158) (loops:=lo158) (joins:=[]) (n:=100000) (args:=[(114,.ptr (some (p0,0)))]) rfl rfl rfl rfl ⟨tyPtr rfl,trivial⟩ (by kernel_rfl) h
def L159_3(p0:Nat)(b3:Bool)(y4:Dat)(y2:Dat)(g:Glob)(Qf:OGP):Prop:=CutP TT Tryz.f159 [1,1,1,0,0] Qf (mkC TT 159 Tryz.f159 1 [(0,.v 114 (.ptr (some (p0,0)))),(2,.loc 2 0 0),(3,.v 4 (.bool b3)),(4,.loc 4 0 0)] [(4,.whole 94 y4),(2,.whole 94 y2)] g)
def lo159:List CutI:=[⟨3,[(0,.keep),(2,.keep),(3,.keep),(4,.keep)],[(4,.whole 94),(2,.whole 94)]⟩]
theorem w159{p0:Nat}{g:Glob}{Qf:OGP}
 (h:EvF TT 121 [.ptr (some (p0,0))] g (KQ Qf λv g'=>∃x,HasTy TT 109 x∧v=.d x∧EvF TT 172 [.ptr (some (p0,0))] g' (KQ Qf λv g'=>∃x_1,HasTy TT 94 x_1∧v=.d x_1∧L159_3 p0 (intOf (fld x 0)==2) x_1 (.agg [.int .i64 0,.str [],.int .i64 0,.nil,.int .i64 0]) g' Qf))):
 EvF TT 159 [.ptr (some (p0,0))] g Qf:=
 sx_fun (rk:=rk) (fn:=Tryz.f159) (loops:=lo159) (joins:=[]) (n:=100000) (args:=[(114,.ptr (some (p0,0)))]) rfl rfl rfl rfl ⟨tyPtr rfl,trivial⟩ (by kernel_rfl) h
theorem w159_3{p0:Nat}{b3:Bool}{y4:Dat}{y2:Dat}{g:Glob}{Qf:OGP}
 (h:Br b3 (EvF TT 173 [.ptr (some (p0,0))] g (KQ Qf λv g'=>∃b,v=.d (.bool b)∧Br b (EvF TT 172 [.ptr (some (p0,0))] g' (KQ Qf λv g'=>∃x,HasTy TT 94 x∧v=.d x∧Fits ((elsOf (fld y4 3)).length+[x].length) 64∧∃r g'_1,gapp 5 (fld y4 3) [x] (gtok g' 5 1)=some (r,g'_1)∧L159_3 p0 b3 (.agg [.int .i64 (intOf (fld y4 0)),.str (strOf (fld y4 1)),.int .i64 (intOf (fld y4 2)),r,.int .i64 (intOf (fld y4 4))]) y2 g'_1 Qf)) (EvF TT 126 [.ptr (some (p0,0)),.str [95]] g' (KQ Qf λv g'=>∃b,v=.d (.bool b)∧Br b (EvF TT 172 [.ptr (some (p0,0))] g' (KQ Qf λv g'=>∃x,HasTy TT 94 x∧v=.d x∧Fits ((elsOf (fld y4 3)).length+[x].length) 64∧∃r g'_1,gapp 5 (fld y4 3) [x] (gtok g' 5 1)=some (r,g'_1)∧L159_3 p0 b3 (.agg [.int .i64 (intOf (fld y4 0)),.str (strOf (fld y4 1)),.int .i64 (intOf (fld y4 2)),r,.int .i64 (intOf (fld y4 4))]) y2 g'_1 Qf)) (Qf (.val (.d (.agg [.int .i64 (intOf (fld y4 0)),.str (strOf (fld y4 1)),.int .i64 (intOf (fld y4 2)),fld y4 3,.int .i64 (intOf (fld y4 4))]))) g'))))) (Qf (.val (.d (.agg [.int .i64 (intOf (fld y4 0)),.str (strOf (fld y4 1)),.int .i64 (intOf (fld y4 2)),fld y4 3,.int .i64 (intOf (fld y4 4))]))) g)):
 L159_3 p0 b3 y4 y2 g Qf:=sx_cut (rk:=rk) (loops:=lo159) (joins:=[]) (n:=100000) (by kernel_rfl) h
def lo160:List CutI:=[]
theorem w160{g:Glob}{Qf:OGP}
 (h:Qf (.val (.uq 1 [.clo 174 [],.clo 175 [],.clo 176 [],.clo 177 []])) g):
 EvF TT 160 [] g Qf:=
 sx_fun (rk:=rk) (fn:=Tryz.f160) (loops:=lo160) (joins:=[]) (n:=100000) (args:=[]) rfl rfl rfl rfl trivial (by kernel_rfl) h
def L171_3(p0:Nat)(b3:Bool)(y4:Dat)(y2:Dat)(g:Glob)(Qf:OGP):Prop:=CutP TT Tryz.f171 [1,1,1,0,0] Qf (mkC TT 171 Tryz.f171 1 [(0,.v 114 (.ptr (some (p0,0)))),(2,.loc 2 0 0),(3,.v 4 (.bool b3)),(4,.loc 4 0 0)] [(4,.whole 28 y4),(2,.whole 28 y2)] g)
def lo171:List CutI:=[⟨3,[(0,.keep),(2,.keep),(3,.keep),(4,.keep)],[(4,.whole 28),(2,.whole 28)]⟩]
theorem w171{p0:Nat}{g:Glob}{Qf:OGP}
 (h:EvF TT 121 [.ptr (some (p0,0))] g (KQ Qf λv g'=>∃x,HasTy TT 109 x∧v=.d x∧EvF TT 125 [.ptr (some (p0,0))] g' (KQ Qf λv g'=>∃x_1,HasTy TT 28 x_1∧v=.d x_1∧L171_3 p0 (intOf (fld x 0)==1) x_1 (.agg [.int .i64 0,.str [],.int .i64 0,.nil]) g' Qf))):
 EvF TT 171 [.ptr (some (p0,0))] g Qf:=
 sx_fun (rk:=rk) (fn:=Tryz.f171) (loops:=lo171) (joins:=[]) (n:=100000) (args:=[(114,.ptr (some (p0,0)))]) rfl rfl rfl rfl ⟨tyPtr rfl,trivial⟩ (by kernel_rfl) h
theorem w171_3{p0:Nat}{b3:Bool}{y4:Dat}{y2:Dat}{g:Glob}{Qf:OGP}
 (h:Br b3 (EvF TT 124 [.ptr (some (p0,0))] g (KQ Qf λv g'=>∃b,v=.d (.bool b)∧Br b (EvF TT 80 [.ptr (some (p0,0)),.bool (intOf (fld y4 0)==4)] g' (KQ Qf λv g'=>RetT v []∧EvF TT 125 [.ptr (some (p0,0))] g' (KQ Qf λv g'=>∃x,HasTy TT 28 x∧v=.d x∧Fits ((elsOf (fld y4 3)).length+[x].length) 56∧∃r g'_1,gapp 4 (fld y4 3) [x] (gtok g' 4 1)=some (r,g'_1)∧L171_3 p0 b3 (.agg [.int .i64 (intOf (fld y4 0)),.str (strOf (fld y4 1)),.int .i64 (intOf (fld y4 2)),r]) y2 g'_1 Qf))) (Qf (.val (.d (.agg [.int .i64 (intOf (fld y4 0)),.str (strOf (fld y4 1)),.int .i64 (intOf (fld y4 2)),fld y4 3]))) g'))) (Qf (.val (.d (.agg [.int .i64 (intOf (fld y4 0)),.str (strOf (fld y4 1)),.int .i64 (intOf (fld y4 2)),fld y4 3]))) g)):
 L171_3 p0 b3 y4 y2 g Qf:=sx_cut (rk:=rk) (loops:=lo171) (joins:=[]) (n:=100000) (by kernel_rfl) h
def lo172:List CutI:=[]
theorem w172{p0:Nat}{g:Glob}{Qf:OGP}
 (h:EvF TT 121 [.ptr (some (p0,0))] g (KQ Qf λv g'=>∃x,HasTy TT 109 x∧v=.d x∧Br (intOf (fld x 0)==1) (∃n,GOk TT 3 g' p0 1 (.int .i64 n)∧GPut g' p0 1 1∧Qf (.val (.d (.agg [.int .i64 (intOf (.int .i64 2)),.str (strOf (.str (strOf (.str (strOf (fld x 1)))))),.int .i64 (intOf (.int .i64 (intOf (.int .i64 (intOf (fld x 2)))))),.nil,.int .i64 (intOf (.int .i64 (intOf (.int .i64 (intOf (fld x 3))))))]))) (gput g' p0 1 (.int .i64 (IntKind.i64.wrap (n+1))))) (EvF TT 126 [.ptr (some (p0,0)),.str [95]] g' (KQ Qf λv g'=>∃b,v=.d (.bool b)∧Br b (∃n,GOk TT 3 g' p0 1 (.int .i64 n)∧GPut g' p0 1 1∧Qf (.val (.d (.agg [.int .i64 (intOf (.int .i64 1)),.str [],.int .i64 (intOf (.int .i64 (intOf (.int .i64 (intOf (fld x 2)))))),.nil,.int .i64 (intOf (.int .i64 (intOf (.int .i64 (intOf (fld x 3))))))]))) (gput g' p0 1 (.int .i64 (IntKind.i64.wrap (n+1))))) (Br (intOf (fld x 0)==4) (∃n,GOk TT 3 g' p0 1 (.int .i64 n)∧GPut g' p0 1 1∧Qf (.val (.d (.agg [.int .i64 (intOf (.int .i64 3)),.str (strOf (.str (strOf (.str (strOf (fld x 1)))))),.int .i64 (intOf (.int .i64 (intOf (.int .i64 (intOf (fld x 2)))))),.nil,.int .i64 (intOf (.int .i64 (intOf (.int .i64 (intOf (fld x 3))))))]))) (gput g' p0 1 (.int .i64 (IntKind.i64.wrap (n+1))))) (Br (intOf (fld x 0)==2) (∃n,GOk TT 3 g' p0 1 (.int .i64 n)∧GPut g' p0 1 1∧Qf (.val (.d (.agg [.int .i64 (intOf (.int .i64 4)),.str (strOf (.str (strOf (.str (strOf (fld x 1)))))),.int .i64 (intOf (.int .i64 (intOf (.int .i64 (intOf (fld x 2)))))),.nil,.int .i64 (intOf (.int .i64 (intOf (.int .i64 (intOf (fld x 3))))))]))) (gput g' p0 1 (.int .i64 (IntKind.i64.wrap (n+1))))) (EvF TT 122 [.ptr (some (p0,0)),.int .i64 6,.str [40]] g' (KQ Qf λv g'=>RetT v []∧EvF TT 159 [.ptr (some (p0,0))] g' (KQ Qf λv g'=>∃x,HasTy TT 94 x∧v=.d x∧EvF TT 122 [.ptr (some (p0,0)),.int .i64 6,.str [41]] g' (KQ Qf λv g'=>RetT v []∧Qf (.val (.d (.agg [.int .i64 (intOf (fld x 0)),.str (strOf (fld x 1)),.int .i64 (intOf (fld x 2)),fld x 3,.int .i64 (intOf (fld x 4))]))) g')))))))))):
 EvF TT 172 [.ptr (some (p0,0))] g Qf:=
 sx_fun (rk:=rk) (fn:=Tryz.f172) (loops:=lo172) (joins:=[]) (n:=100000) (args:=[(114,.ptr (some (p0,0)))]) rfl rfl rfl rfl ⟨tyPtr rfl,trivial⟩ (by kernel_rfl) h
def lo173:List CutI:=[]
theorem w173{p0:Nat}{g:Glob}{Qf:OGP}
 (h:EvF TT 121 [.ptr (some (p0,0))] g (KQ Qf λv g'=>∃x,HasTy TT 109 x∧v=.d x∧Br (intOf (fld x 0)==1) (Qf (.val (.d (.bool true))) g') (Br (intOf (fld x 0)==4) (Qf (.val (.d (.bool true))) g') (Br (intOf (fld x 0)==2) (Qf (.val (.d (.bool true))) g') (EvF TT 126 [.ptr (some (p0,0)),.str [40]] g' (KQ Qf λv g'=>∃b,v=.d (.bool b)∧Qf (.val (.d (.bool b))) g')))))):
 EvF TT 173 [.ptr (some (p0,0))] g Qf:=
 sx_fun (rk:=rk) (fn:=Tryz.f173) (loops:=lo173) (joins:=[]) (n:=100000) (args:=[(114,.ptr (some (p0,0)))]) rfl rfl rfl rfl ⟨tyPtr rfl,trivial⟩ (by kernel_rfl) h
def lo174:List CutI:=[]
theorem w174{p0:Nat}{g:Glob}{Qf:OGP}
 (h:EvF TT 130 [.ptr (some (p0,0)),.int .i64 1] g (KQ Qf λv g'=>∃x,HasTy TT 25 x∧v=.d x∧EvF TT 190 [.ptr (some (p0,0)),x,.int .i64 1,.sl 1 [.str [60],.str [61,61]]] g' (KQ Qf λv g'=>∃x,HasTy TT 25 x∧∃b,RetT v [x,.bool b]∧Qf (.val (.d (.agg [.int .i64 (intOf (fld x 0)),.str (strOf (fld x 1)),.str (strOf (fld x 2)),.int .i64 (intOf (fld x 3)),fld x 4,fld x 5,.int .i64 (intOf (fld x 6))]))) g'))):
 EvF TT 174 [.ptr (some (p0,0))] g Qf:=
 sx_fun (rk:=rk) (fn:=Tryz.f174) (loops:=lo174) (joins:=[]) (n:=100000) (args:=[(114,.ptr (some (p0,0)))]) rfl rfl rfl rfl ⟨tyPtr rfl,trivial⟩ (by kernel_rfl) h
def L175_2(p0:Nat)(b4:Bool)(y3:Dat)(y2:Dat)(g:Glob)(Qf:OGP):Prop:=CutP TT Tryz.f175 [1,1,0,0] Qf (mkC TT 175 Tryz.f175 1 [(0,.v 114 (.ptr (some (p0,0)))),(2,.loc 2 0 0),(3,.loc 3 0 0),(4,.v 4 (.bool b4))] [(3,.whole 25 y3),(2,.whole 25 y2)] g)
def lo175:List CutI:=[⟨2,[(0,.keep),(2,.keep),(3,.keep),(4,.keep)],[(3,.whole 25),(2,.whole 25)]⟩]
theorem w175{p0:Nat}{g:Glob}{Qf:OGP}
 (h:EvF TT 130 [.ptr (some (p0,0)),.int .i64 2] g (KQ Qf λv g'=>∃x,HasTy TT 25 x∧v=.d x∧L175_2 p0 true x (.agg [.int .i64 0,.str [],.str [],.int .i64 0,.nil,.nil,.int .i64 0]) g' Qf)):
 EvF TT 175 [.ptr (some (p0,0))] g Qf:=
 sx_fun (rk:=rk) (fn:=Tryz.f175) (loops:=lo175) (joins:=[]) (n:=100000) (args:=[(114,.ptr (some (p0,0)))]) rfl rfl rfl rfl ⟨tyPtr rfl,trivial⟩ (by kernel_rfl) h
theorem w175_2{p0:Nat}{b4:Bool}{y3:Dat}{y2:Dat}{g:Glob}{Qf:OGP}
 (h:Br b4 (EvF TT 190 [.ptr (some (p0,0)),y3,.int .i64 2,.sl 1 [.str [43],.str [45]]] g (KQ Qf λv g'=>∃x,HasTy TT 25 x∧∃b,RetT v [x,.bool b]∧L175_2 p0 b x y2 g' Qf)) (Qf (.val (.d (.agg [.int .i64 (intOf (fld y3 0)),.str (strOf (fld y3 1)),.str (strOf (fld y3 2)),.int .i64 (intOf (fld y3 3)),fld y3 4,fld y3 5,.int .i64 (intOf (fld y3 6))]))) g)):
 L175_2 p0 b4 y3 y2 g Qf:=sx_cut (rk:=rk) (loops:=lo175) (joins:=[]) (n:=100000) (by kernel_rfl) h
def L176_2(p0:Nat)(b4:Bool)(y3:Dat)(y2:Dat)(g:Glob)(Qf:OGP):Prop:=CutP TT Tryz.f176 [1,1,0,0] Qf (mkC TT 176 Tryz.f176 1 [(0,.v 114 (.ptr (some (p0,0)))),(2,.loc 2 0 0),(3,.loc 3 0 0),(4,.v 4 (.bool b4))] [(3,.whole 25 y3),(2,.whole 25 y2)] g)
def lo176:List CutI:=[⟨2,[(0,.keep),(2,.keep),(3,.keep),(4,.keep)],[(3,.whole 25),(2,.whole 25)]⟩]
theorem w176{p0:Nat}{g:Glob}{Qf:OGP}
 (h:EvF TT 130 [.ptr (some (p0,0)),.int .i64 3] g (KQ Qf λv g'=>∃x,HasTy TT 25 x∧v=.d x∧L176_2 p0 true x (.agg [.int .i64 0,.str [],.str [],.int .i64 0,.nil,.nil,.int .i64 0]) g' Qf)):
 EvF TT 176 [.ptr (some (p0,0))] g Qf:=
 sx_fun (rk:=rk) (fn:=Tryz.f176) (loops:=lo176) (joins:=[]) (n:=100000) (args:=[(114,.ptr (some (p0,0)))]) rfl rfl rfl rfl ⟨tyPtr rfl,trivial⟩ (by kernel_rfl) h
theorem w176_2{p0:Nat}{b4:Bool}{y3:Dat}{y2:Dat}{g:Glob}{Qf:OGP}
 (h:Br b4 (EvF TT 190 [.ptr (some (p0,0)),y3,.int .i64 3,.sl 1 [.str [42],.str [47],.str [37]]] g (KQ Qf λv g'=>∃x,HasTy TT 25 x∧∃b,RetT v [x,.bool b]∧L176_2 p0 b x y2 g' Qf)) (Qf (.val (.d (.agg [.int .i64 (intOf (fld y3 0)),.str (strOf (fld y3 1)),.str (strOf (fld y3 2)),.int .i64 (intOf (fld y3 3)),fld y3 4,fld y3 5,.int .i64 (intOf (fld y3 6))]))) g)):
 L176_2 p0 b4 y3 y2 g Qf:=sx_cut (rk:=rk) (loops:=lo176) (joins:=[]) (n:=100000) (by kernel_rfl) h
def L177_4(p0:Nat)(y4:Dat)(y2:Dat)(g:Glob)(Qf:OGP):Prop:=CutP TT Tryz.f177 [1,1,0,0,1,0,1,0,0] Qf (mkC TT 177 Tryz.f177 1 [(0,.v 114 (.ptr (some (p0,0)))),(2,.loc 2 0 0),(4,.loc 4 0 0)] [(4,.whole 25 y4),(2,.whole 25 y2)] g)
def L177_11(p0:Nat)(y5:Dat)(y2:Dat)(g:Glob)(Qf:OGP):Prop:=CutP TT Tryz.f177 [1,1,1,1,0,0] Qf (mkC TT 177 Tryz.f177 1 [(0,.v 114 (.ptr (some (p0,0)))),(2,.loc 2 0 0),(5,.loc 5 0 0)] [(5,.whole 25 y5),(2,.whole 25 y2)] g)
def lo177:List CutI:=[⟨4,[(0,.keep),(2,.keep),(4,.keep)],[(4,.whole 25),(2,.whole 25)]⟩,⟨11,[(0,.keep),(2,.keep),(5,.keep)],[(5,.whole 25),(2,.whole 25)]⟩]
theorem w177{p0:Nat}{g:Glob}{Qf:OGP}
 (h:EvF TT 121 [.ptr (some (p0,0))] g (KQ Qf λv g'=>∃x,HasTy TT 109 x∧v=.d x∧Br (intOf (fld x 0)==2) (EvF TT 191 [.ptr (some (p0,0))] g' (KQ Qf λv g'=>∃x,HasTy TT 25 x∧v=.d x∧L177_4 p0 x (.agg [.int .i64 0,.str [],.str [],.int .i64 0,.nil,.nil,.int .i64 0]) g' Qf)) (EvF TT 77 [.ptr (some (p0,0)),.str [112,114,105,110,116]] g' (KQ Qf λv g'=>∃b,v=.d (.bool b)∧Br b (∃n,GOk TT 3 g' p0 1 (.int .i64 n)∧GPut g' p0 1 1∧EvF TT 191 [.ptr (some (p0,0))] (gput g' p0 1 (.int .i64 (IntKind.i64.wrap (n+1)))) (KQ Qf λv g'=>∃x_1,HasTy TT 25 x_1∧v=.d x_1∧Qf (.val (.d (.agg [.int .i64 (intOf (.int .i64 10)),.str [],.str [],.int .i64 (intOf (.int .i64 0)),.gsl g'.toks.length 7 [x_1],.nil,.int .i64 (intOf (.int .i64 (intOf (fld x 3))))]))) (gtok g' 7 1))) (EvF TT 191 [.ptr (some (p0,0))] g' (KQ Qf λv g'=>∃x,HasTy TT 25 x∧v=.d x∧L177_11 p0 x (.agg [.int .i64 0,.str [],.str [],.int .i64 0,.nil,.nil,.int .i64 0]) g' Qf)))))):
 EvF TT 177 [.ptr (some (p0,0))] g Qf:=
 sx_fun (rk:=rk) (fn:=Tryz.f177) (loops:=lo177) (joins:=[]) (n:=100000) (args:=[(114,.ptr (some (p0,0)))]) rfl rfl rfl rfl ⟨tyPtr rfl,trivial⟩ (by kernel_rfl) h
theorem w177_4{p0:Nat}{y4:Dat}{y2:Dat}{g:Glob}{Qf:OGP}
 (h:EvF TT 173 [.ptr (some (p0,0))] g (KQ Qf λv g'=>∃b,v=.d (.bool b)∧Br b (EvF TT 191 [.ptr (some (p0,0))] g' (KQ Qf λv g'=>∃x,HasTy TT 25 x∧v=.d x∧Fits ((elsOf (fld y4 4)).length+[x].length) 104∧∃r g'_1,gapp 7 (fld y4 4) [x] (gtok g' 7 1)=some (r,g'_1)∧L177_4 p0 (.agg [.int .i64 (intOf (fld y4 0)),.str (strOf (fld y4 1)),.str (strOf (fld y4 2)),.int .i64 (intOf (fld y4 3)),r,fld y4 5,.int .i64 (intOf (fld y4 6))]) y2 g'_1 Qf)) (Qf (.val (.d (.agg [.int .i64 (intOf (fld y4 0)),.str (strOf (fld y4 1)),.str (strOf (fld y4 2)),.int .i64 (intOf (fld y4 3)),fld y4 4,fld y4 5,.int .i64 (intOf (fld y4 6))]))) g'))):
 L177_4 p0 y4 y2 g Qf:=sx_cut (rk:=rk) (loops:=lo177) (joins:=[]) (n:=100000) (by kernel_rfl) h
theorem w177_11{p0:Nat}{y5:Dat}{y2:Dat}{g:Glob}{Qf:OGP}
 (h:EvF TT 173 [.ptr (some (p0,0))] g (KQ Qf λv g'=>∃b,v=.d (.bool b)∧Br b (EvF TT 191 [.ptr (some (p0,0))] g' (KQ Qf λv g'=>∃x,HasTy TT 25 x∧v=.d x∧L177_11 p0 (.agg [.int .i64 4,.str [],.str [],.int .i64 0,.gsl g'.toks.length 7 [y5,x],.nil,.int .i64 (intOf (fld y5 6))]) y2 (gtok g' 7 2) Qf)) (Qf (.val (.d (.agg [.int .i64 (intOf (fld y5 0)),.str (strOf (fld y5 1)),.str (strOf (fld y5 2)),.int .i64 (intOf (fld y5 3)),fld y5 4,fld y5 5,.int .i64 (intOf (fld y5 6))]))) g'))):
 L177_11 p0 y5 y2 g Qf:=sx_cut (rk:=rk) (loops:=lo177) (joins:=[]) (n:=100000) (by kernel_rfl) h
def lo190:List CutI:=[]
theorem w190{p0:Nat}{x1:Dat}{n2:Int}{x3:Dat}{g:Glob}{Qf:OGP}(h1:HasTy TT 25 x1)(h3:HasTy TT 47 x3)
 (h:EvF TT 121 [.ptr (some (p0,0))] g (KQ Qf λv g'=>∃x,HasTy TT 109 x∧v=.d x∧Br (intOf (fld x 0)!=6) (Qf (.val (.tuple [.d (.agg [.int .i64 (intOf (fld x1 0)),.str (strOf (fld x1 1)),.str (strOf (fld x1 2)),.int .i64 (intOf (fld x1 3)),fld x1 4,fld x1 5,.int .i64 (intOf (fld x1 6))]),.d (.bool false)])) g') (EvF TT 202 [x3,.str (strOf (fld x 1))] g' (KQ Qf λv g'=>∃b,v=.d (.bool b)∧Br (!b) (Qf (.val (.tuple [.d (.agg [.int .i64 (intOf (fld x1 0)),.str (strOf (fld x1 1)),.str (strOf (fld x1 2)),.int .i64 (intOf (fld x1 3)),fld x1 4,fld x1 5,.int .i64 (intOf (fld x1 6))]),.d (.bool false)])) g') (∃n,GOk TT 3 g' p0 1 (.int .i64 n)∧GPut g' p0 1 1∧EvF TT 130 [.ptr (some (p0,0)),.int .i64 n2] (gput g' p0 1 (.int .i64 (IntKind.i64.wrap (n+1)))) (KQ Qf λv g'=>∃x_1,HasTy TT 25 x_1∧v=.d x_1∧Qf (.val (.tuple [.d (.agg [.int .i64 (intOf (.int .i64 9)),.str (strOf (.str (strOf (fld x 1)))),.str [],.int .i64 (intOf (.int .i64 0)),.sl 7 [x1,x_1],.nil,.int .i64 (intOf (.int .i64 (intOf (fld x1 6))))]),.d (.bool true)])) g')))))):
 EvF TT 190 [.ptr (some (p0,0)),x1,.int .i64 n2,x3] g Qf:=
 sx_fun (rk:=rk) (fn:=Tryz.f190) (loops:=lo190) (joins:=[]) (n:=100000) (args:=[(114,.ptr (some (p0,0))),(25,x1),(3,.int .i64 n2),(47,x3)]) rfl rfl rfl rfl ⟨tyPtr rfl,h1,tyInt rfl,h3,trivial⟩ (by kernel_rfl) h
def lo191:List CutI:=[]
theorem w191{p0:Nat}{g:Glob}{Qf:OGP}
 (h:EvF TT 121 [.ptr (some (p0,0))] g (KQ Qf λv g'=>∃x,HasTy TT 109 x∧v=.d x∧Br (intOf (fld x 0)==1) (∃n,GOk TT 3 g' p0 1 (.int .i64 n)∧GPut g' p0 1 1∧Qf (.val (.d (.agg [.int .i64 (intOf (.int .i64 1)),.str (strOf (.str (strOf (fld x 1)))),.str [],.int .i64 (intOf (.int .i64 (intOf (fld x 2)))),.nil,.nil,.int .i64 (intOf (.int .i64 (intOf (fld x 3))))]))) (gput g' p0 1 (.int .i64 (IntKind.i64.wrap (n+1))))) (Br (intOf (fld x 0)==4) (∃n,GOk TT 3 g' p0 1 (.int .i64 n)∧GPut g' p0 1 1∧Qf (.val (.d (.agg [.int .i64 (intOf (.int .i64 2)),.str (strOf (.str (strOf (fld x 1)))),.str [],.int .i64 (intOf (.int .i64 (intOf (fld x 2)))),.nil,.nil,.int .i64 (intOf (.int .i64 (intOf (fld x 3))))]))) (gput g' p0 1 (.int .i64 (IntKind.i64.wrap (n+1))))) (Br (intOf (fld x 0)==2) (∃n,GOk TT 3 g' p0 1 (.int .i64 n)∧GPut g' p0 1 1∧Qf (.val (.d (.agg [.int .i64 (intOf (.int .i64 8)),.str (strOf (.str (strOf (fld x 1)))),.str [],.int .i64 (intOf (.int .i64 (intOf (fld x 2)))),.nil,.nil,.int .i64 (intOf (.int .i64 (intOf (fld x 3))))]))) (gput g' p0 1 (.int .i64 (IntKind.i64.wrap (n+1))))) (EvF TT 122 [.ptr (some (p0,0)),.int .i64 6,.str [40]] g' (KQ Qf λv g'=>RetT v []∧EvF TT 79 [.ptr (some (p0,0))] g' (KQ Qf λv g'=>∃x,HasTy TT 25 x∧v=.d x∧EvF TT 122 [.ptr (some (p0,0)),.int .i64 6,.str [41]] g' (KQ Qf λv g'=>RetT v []∧Qf (.val (.d (.agg [.int .i64 (intOf (fld x 0)),.str (strOf (fld x 1)),.str (strOf (fld x 2)),.int .i64 (intOf (fld x 3)),fld x 4,fld x 5,.int .i64 (intOf (fld x 6))]))) g')))))))):
 EvF TT 191 [.ptr (some (p0,0))] g Qf:=
 sx_fun (rk:=rk) (fn:=Tryz.f191) (loops:=lo191) (joins:=[]) (n:=100000) (args:=[(114,.ptr (some (p0,0)))]) rfl rfl rfl rfl ⟨tyPtr rfl,trivial⟩ (by kernel_rfl) h
def lo202:List CutI:=[]
theorem w202{x0:Dat}{s1:List UInt8}{g:Glob}{Qf:OGP}(h0:HasTy TT 47 x0)(h1:s1.length≤2^40)
 (h:EvF TT 209 [x0,.str s1] g (KQ Qf λv g'=>∃n,v=.d (.int .i64 n)∧Qf (.val (.d (.bool (decide (0≤n))))) g')):
 EvF TT 202 [x0,.str s1] g Qf:=
 sx_fun (rk:=rk) (fn:=Tryz.f202) (loops:=lo202) (joins:=[]) (n:=100000) (args:=[(47,x0),(9,.str s1)]) rfl rfl rfl rfl ⟨h0,tyStr rfl h1,trivial⟩ (by kernel_rfl) h
def L209_2(x0:Dat)(s1:List UInt8)(n7:Int)(n8:Int)(g:Glob)(Qf:OGP):Prop:=CutP TT Tryz.f209 [1,0,1,0] Qf (mkC TT 209 Tryz.f209 2 [(0,.v 47 (x0)),(1,.v 9 (.str s1)),(7,.v 3 (.int .i64 n7)),(8,.v 3 (.int .i64 n8))] [] g)
def lo209:List CutI:=[⟨2,[(0,.keep),(1,.keep),(7,.keep),(8,.keep)],[]⟩]
theorem w209{x0:Dat}{s1:List UInt8}{g:Glob}{Qf:OGP}(h0:HasTy TT 47 x0)(h1:s1.length≤2^40)
 (h:L209_2 x0 s1 (↑(elsOf x0).length:Int) 0 g Qf):
 EvF TT 209 [x0,.str s1] g Qf:=
 sx_fun (rk:=rk) (fn:=Tryz.f209) (loops:=lo209) (joins:=[]) (n:=100000) (args:=[(47,x0),(9,.str s1)]) rfl rfl rfl rfl ⟨h0,tyStr rfl h1,trivial⟩ (by kernel_rfl) h
theorem w209_2{x0:Dat}{s1:List UInt8}{n7:Int}{n8:Int}{g:Glob}{Qf:OGP}
 (h:Br (decide (n8<n7)) (InB n8 (elsOf x0).length∧Br (s1==strOf (fld (getE (elsOf x0) n8) 0)) (Qf (.val (.d (.int .i64 n8))) g) (L209_2 x0 s1 n7 (IntKind.i64.wrap (n8+1)) g Qf)) (Qf (.val (.d (.int .i64 (-1)))) g)):
 L209_2 x0 s1 n7 n8 g Qf:=sx_cut (rk:=rk) (loops:=lo209) (joins:=[]) (n:=100000) (by kernel_rfl) h
end Go.Proofs.YtmlghadphdpbjaaGreatDoor.Pa
namespace Go.Proofs.YtmlghadphdpbjaaGreatDoor.Pa
open Go Go.Proofs.YtmlghadphdpbjaaGreatDoor.Am
theorem Br_of{c:Bool}{A B:Prop}(q:c=true)(h:A):Br c A B:=by subst q;exact h
theorem Br_no{c:Bool}{A B:Prop}(q:c=false)(h:B):Br c A B:=by subst q;exact h
theorem gok{g:Glob}{i o n:Nat}{cs:List GVal}{x:Dat}{t:TypeId}{d:TypeDesc}(hu:TT.und t=some d)(hs:TT.size t=some n)(ha:isAggD d=false)(hb:g.boxes[i]?=some (.cells cs))(hc:cs[o]?=some (.d x)):GOk TT t g i o x:=by
 refine⟨.d x,?_,rfl,rfl⟩
 simp only[gload,hb,loadV,hu,hs,ha,Bool.false_eq_true,if_false,List.head?_map,List.head?_drop,hc]
 rfl
theorem sizeInt:TT.size 3=some 1:=by kernel_rfl
theorem gokInt{g:Glob}{i o:Nat}{cs:List GVal}{n:Int}(hb:g.boxes[i]?=some (.cells cs))(hc:cs[o]?=some (.d (.int .i64 n))):GOk TT 3 g i o (.int .i64 n):=gok undInt sizeInt rfl hb hc
theorem undToks:TT.und 80=some (.slice 109):=by kernel_rfl
theorem sizeToks:TT.size 80=some 1:=by kernel_rfl
theorem gput1{g:Glob}{i o:Nat}{cs:List GVal}{k:IntKind}{n:Int}(hb:g.boxes[i]?=some (.cells cs)):gput g i o (.int k n)={g with boxes:=g.boxes.set i (.cells (cs.set o (.d (.int k n))))}:=by
 simp only[gput,hb]
 rfl
structure Env where
 p:Nat
 x:Dat
 ts:List Pk
 en:Int
def pkD(t:Pk):Dat:=tkD t.1 t.2
structure GoodTk(t:Pk):Prop where
 str:t.1.2.1.length≤2^40
 k0:t.1.1≠0
 pl:0≤t.2
 n0:t.1.1≠4→t.1.2.2=0
 t0:t.1.1=4→t.1.2.1=[]
 key:t.1.1=5→keyB t.1.2.1=true
 sign:t.1.1=6→t.1.2.1∈signL
 low:t.1.1=1→wLow t.1.2.1=true
 up:t.1.1=2→wUp t.1.2.1=true
 var:t.1.1=3→wVar t.1.2.1=true
 int:t.1.1=4→inI t.1.2.2=true
structure Env.Ok(V:Env):Prop where
 els:elsOf V.x=V.ts.map pkD
 ty:HasTy TT 80 V.x
 len:V.ts.length≤4096
 good:∀t∈V.ts,GoodTk t
 en0:0≤V.en
def pBox(V:Env)(n:Nat):GBox:=.cells [.d V.x,.d (.int .i64 n),.d (.int .i64 V.en)]
def PSt(V:Env)(g:Glob)(r:List Pk):Prop:=∃pre,V.ts=pre++r∧g.boxes[V.p]?=some (pBox V pre.length)
def Nx(V:Env)(g g':Glob):Prop:=(∀i,i≠V.p→g'.boxes[i]?=g.boxes[i]?)∧∃m,g'.toks=g.toks++m
theorem Nx.refl{V:Env}{g:Glob}:Nx V g g:=⟨λ_ _=>rfl,[],by simp⟩
theorem Nx.trans{V:Env}{g g1 g2:Glob}(h:Nx V g g1)(k:Nx V g1 g2):Nx V g g2:=by
 obtain⟨m,hm⟩:=h.2
 obtain⟨l,hl⟩:=k.2
 exact⟨λi hi=>(k.1 i hi).trans (h.1 i hi),m++l,by rw[hl,hm,List.append_assoc]⟩
variable{V:Env}{g g0 g1:Glob}{r:List Pk}{Qf Qi:Out→Glob→Prop}{α β:Type}
theorem PSt.len(hV:V.Ok)(h:PSt V g r):r.length≤4096:=by
 obtain⟨pre,e,_⟩:=h
 have:=hV.len
 rw[e,List.length_append] at this
 omega
theorem PSt.goodAll(hV:V.Ok)(h:PSt V g r):∀t∈r,GoodTk t:=by
 obtain⟨pre,e,_⟩:=h
 exact λt ht=>hV.good t (by rw[e];exact List.mem_append_right _ ht)
theorem txK_len(h:∀t∈r,GoodTk t):(txK r).length≤2^40:=by
 cases r with
 |nil=>simp[txK]
 |cons t r=>exact(h t (by simp)).str
def hdD(V:Env)(r:List Pk):Dat:=tkD (kdK r,txK r,nmK r) (plK V.en r)
theorem hd_ty(hV:V.Ok)(h:PSt V g r):HasTy TT 109 (hdD V r):=ty_tok (txK_len (h.goodAll hV))
theorem ppeek(hV:V.Ok)(h:PSt V g r)(hQ:Qf (.val (.d (hdD V r))) g):EvF TT 121 [.ptr (some (V.p,0))] g Qf:=by
 have hlen:=hV.len
 obtain⟨pre,e,hb⟩:=h
 refine w121 ⟨pre.length,gokInt hb rfl,V.x,hV.ty,gok undToks sizeToks rfl hb rfl,Br_iff.2 ⟨λq=>?_,λq=>?_⟩⟩
 ·have q:=of_decide_eq_true q
  rw[hV.els,List.length_map] at q
  refine⟨V.x,hV.ty,gok undToks sizeToks rfl hb rfl,pre.length,gokInt hb rfl,?_,?_⟩
  ·rw[hV.els,List.length_map]
   exact inB (by omega)
  ·cases r with
   |nil=>rw[e,List.append_nil] at q;omega
   |cons t r=>
    have:getE (elsOf V.x) (pre.length:Int)=pkD t:=by
     rw[hV.els,e,getE_nat (by simp)]
     simp
    rw[this]
    exact hQ
 ·have q:=of_decide_eq_false q
  rw[hV.els,List.length_map] at q
  refine⟨V.en,gokInt hb rfl,?_⟩
  cases r with
  |nil=>exact hQ
  |cons t r=>rw[e,List.length_append,List.length_cons] at q;omega
theorem padv(hV:V.Ok)(h:PSt V g r)(hr:r≠[]):∃n g',GOk TT 3 g V.p 1 (.int .i64 n)∧GPut g V.p 1 1∧gput g V.p 1 (.int .i64 (IntKind.i64.wrap (n+1)))=g'∧PSt V g' r.tail∧Nx V g g':=by
 obtain⟨pre,e,hb⟩:=h
 have hlen:=hV.len
 have hlt:V.p<g.boxes.length:=(List.getElem?_eq_some_iff.1 hb).1
 cases r with
 |nil=>exact absurd rfl hr
 |cons t r=>
  rw[e,List.length_append] at hlen
  refine⟨pre.length,_,gokInt hb rfl,⟨_,hb,by simp⟩,gput1 hb,⟨pre++[t],by rw[e,List.append_assoc];rfl,?_⟩,⟨λi hi=>?_,[],by simp⟩⟩
  ·simp only[List.getElem?_set_self hlt]
   rw[wrap_nat (by omega),List.length_append]
   rfl
  ·simp only[List.getElem?_set_ne (Ne.symm hi)]
theorem ne_nil{k:Int}(hk:k≠0)(q:(kdK r==k)=true):r≠[]:=by
 rintro rfl
 exact hk (by simpa[kdK] using(beq_iff_eq.1 q).symm)
theorem isK_ne{k:Int}{s:Str}(hk:k≠0)(q:isK' k s r=true):r≠[]:=by
 unfold isK' at q
 rw[Bool.and_eq_true] at q
 exact ne_nil hk q.1
theorem pis(hV:V.Ok)(h:PSt V g r){k:Int}{s:Str}(hs:s.length≤2^40)(hQ:Qf (.val (.d (.bool (isK' k s r)))) g):EvF TT 120 [.ptr (some (V.p,0)),.int .i64 k,.str s] g Qf:=by
 refine w120 hs (ppeek hV h ⟨_,hd_ty hV h,rfl,?_⟩)
 show Br (kdK r==k) _ _
 unfold isK' at hQ
 cases q:(kdK r==k) with
 |true=>rw[q] at hQ;exact hQ
 |false=>rw[q] at hQ;exact hQ
theorem psign(hV:V.Ok)(h:PSt V g r){s:Str}(hs:s.length≤2^40)(hQ:Qf (.val (.d (.bool (isK' 6 s r)))) g):EvF TT 126 [.ptr (some (V.p,0)),.str s] g Qf:=
 w126 hs (pis hV h hs ⟨_,rfl,hQ⟩)
theorem pkey(hV:V.Ok)(h:PSt V g r){s:Str}(hs:s.length≤2^40)(hQ:Qf (.val (.d (.bool (isK' 5 s r)))) g):EvF TT 77 [.ptr (some (V.p,0)),.str s] g Qf:=
 w77 hs (pis hV h hs ⟨_,rfl,hQ⟩)
def faultD(p:Int):Dat:=.iface 113 (.agg [.int .i64 p])
theorem pwant(hV:V.Ok)(h:PSt V g r){b:Bool}(ok:b=true→Qf (.val (.tuple [])) g)(no:b=false→Qf (.panic (faultD (plK V.en r))) g):EvF TT 80 [.ptr (some (V.p,0)),.bool b] g Qf:=by
 refine w80 ?_
 cases b with
 |true=>exact ok rfl
 |false=>exact ppeek hV h ⟨_,hd_ty hV h,rfl,no rfl⟩
theorem containsStr_ok{x:Dat}{s:Str}(hx:HasTy TT 47 x)(hs:s.length≤2^40)(hQ:Qf (.val (.d (.bool ((elsOf x).any λy=>s==strOf y)))) g):EvF TT 202 [x,.str s] g Qf:=by
 refine w202 hx hs (w209 hx hs ?_)
 have hl:=(hx.els undStrs).1.1
 have he:=(hx.els undStrs).2
 refine loopUp (len:=(elsOf x).length) (λi=>Qf (.val (.d (.bool (((elsOf x).drop i).any λy=>s==strOf y)))) g→L209_2 x s (elsOf x).length i g _) ?_ ?_ 0 (Nat.zero_le _) hQ
 ·intro hQ
  refine w209_2 ?_
  rw[Br_ge]
  refine⟨_,rfl,?_⟩
  rw[List.drop_length] at hQ
  exact hQ
 ·intro i hi ih hQ
  refine w209_2 ?_
  rw[Br_lt hi,getE_nat hi]
  obtain⟨u,hu,_⟩:=str_ty (he _ (List.getElem_mem hi))
  rw[List.drop_eq_getElem_cons hi,List.any_cons,hu] at hQ
  rw[hu]
  refine⟨inB hi,?_⟩
  show Br (s==u) _ _
  have hQ:Qf (.val (.d (.bool ((s==u)||((elsOf x).drop (i+1)).any λy=>s==strOf y)))) g:=hQ
  cases q:(s==u) with
  |true=>
   rw[q] at hQ
   refine⟨_,rfl,?_⟩
   rw[show decide ((0:Int)≤(i:Int))=true by simp]
   exact hQ
  |false=>
   rw[q] at hQ
   rw[Br_false,wrap_nat (by omega)]
   exact ih hQ
def PFin(V:Env){α:Type}(ab:Dat→α)(t:TypeId)(g:Glob)(res:Res α)(Qf:OGP):Prop:=
 match res with
 |.ok v r=>∀d g',ab d=v→HasTy TT t d→PSt V g' r→Nx V g g'→Qf (.val (.d d)) g'
 |.bad p=>∀g',Nx V g g'→Qf (.panic (faultD p)) g'
 |.oof=>False
variable{ab:Dat→α}{ab':Dat→β}{t t':TypeId}
theorem PFin.call{res:Res α}{f:α→List Pk→Res β}(hQ:PFin V ab' t' g0 (res.bind f) Qf)(hn:Nx V g0 g)(hp:∀p g',Qf (.panic p) g'→Qi (.panic p) g')
 (K:∀v r' d g',res=.ok v r'→ab d=v→HasTy TT t d→PSt V g' r'→Nx V g0 g'→Nx V g g'→PFin V ab' t' g0 (f v r') Qf→Qi (.val (.d d)) g'):PFin V ab t g res Qi:=by
 cases res with
 |ok v r=>exact λd g' h1 h2 h3 h4=>K v r d g' rfl h1 h2 h3 (hn.trans h4) h4 hQ
 |bad p=>exact λg' h4=>hp _ _ (hQ g' (hn.trans h4))
 |oof=>exact hQ
theorem pskip(hV:V.Ok)(h:PSt V g r){k:Int}{s:Str}{f:Unit→List Pk→Res β}(hk:k≠0)(hs:s.length≤2^40)(hQ:PFin V ab' t' g0 ((need V.en k s r).bind f) Qf)(hn:Nx V g0 g)(hp:∀p g',Qf (.panic p) g'→Qi (.panic p) g')
 (K:∀g',isK' k s r=true→PSt V g' r.tail→Nx V g0 g'→Nx V g g'→PFin V ab' t' g0 (f () r.tail) Qf→Qi (.val (.tuple [])) g'):EvF TT 122 [.ptr (some (V.p,0)),.int .i64 k,.str s] g Qi:=by
 refine w122 hs (pis hV h hs ⟨_,rfl,pwant hV h (λq=>⟨trivial,?_⟩) (λq=>?_)⟩)
 ·obtain⟨n,g',h1,h2,h3,h4,h5⟩:=padv hV h (isK_ne hk q)
  refine⟨n,h1,h2,?_⟩
  rw[h3]
  refine K g' q h4 (hn.trans h5) h5 ?_
  unfold need at hQ
  rw[if_pos q] at hQ
  exact hQ
 ·unfold need at hQ
  rw[if_neg (by rw[q];simp)] at hQ
  exact hp _ _ (hQ g hn)
theorem ptake(hV:V.Ok)(h:PSt V g r){k:Int}{f:Str→List Pk→Res β}(hk:k≠0)(hQ:PFin V ab' t' g0 ((word1 V.en k r).bind f) Qf)(hn:Nx V g0 g)(hp:∀p g',Qf (.panic p) g'→Qi (.panic p) g')
 (K:∀g',(kdK r==k)=true→PSt V g' r.tail→Nx V g0 g'→Nx V g g'→PFin V ab' t' g0 (f (txK r) r.tail) Qf→Qi (.val (.d (hdD V r))) g'):EvF TT 123 [.ptr (some (V.p,0)),.int .i64 k] g Qi:=by
 refine w123 (ppeek hV h ⟨_,hd_ty hV h,rfl,pwant hV h (λq=>⟨trivial,?_⟩) (λq=>?_)⟩)
 ·have q:(kdK r==k)=true:=q
  obtain⟨n,g',h1,h2,h3,h4,h5⟩:=padv hV h (ne_nil hk q)
  refine⟨n,h1,h2,?_⟩
  rw[h3]
  refine K g' q h4 (hn.trans h5) h5 ?_
  unfold word1 at hQ
  rw[if_pos q] at hQ
  exact hQ
 ·have q:(kdK r==k)=false:=q
  unfold word1 at hQ
  rw[if_neg (by rw[q];simp)] at hQ
  exact hp _ _ (hQ g hn)
theorem ptyatoms(hV:V.Ok)(h:PSt V g r)(hQ:Qf (.val (.d (.bool (tyNext r)))) g):EvF TT 124 [.ptr (some (V.p,0))] g Qf:=by
 refine w124 (ppeek hV h ⟨_,hd_ty hV h,rfl,?_⟩)
 show Br (kdK r==1) _ (Br (kdK r==3) _ _)
 refine Br_iff.2 ⟨λq=>qcast hQ (by simp[tyNext,q]),λq=>Br_iff.2 ⟨λq'=>qcast hQ (by simp[tyNext,q']),λq'=>psign hV h (by decide) ⟨_,rfl,qcast hQ (by simp[tyNext,q,q',sOpen])⟩⟩⟩
theorem patoms(hV:V.Ok)(h:PSt V g r)(hQ:Qf (.val (.d (.bool (atNext r)))) g):EvF TT 173 [.ptr (some (V.p,0))] g Qf:=by
 refine w173 (ppeek hV h ⟨_,hd_ty hV h,rfl,?_⟩)
 show Br (kdK r==1) _ (Br (kdK r==4) _ (Br (kdK r==2) _ _))
 refine Br_iff.2 ⟨λq=>qcast hQ (by simp[atNext,q]),λq=>Br_iff.2 ⟨λq'=>qcast hQ (by simp[atNext,q']),λq'=>Br_iff.2 ⟨λq''=>qcast hQ (by simp[atNext,q'']),λq''=>psign hV h (by decide) ⟨_,rfl,qcast hQ (by simp[atNext,q,q',q'',sOpen])⟩⟩⟩⟩
def Lv(b:Nat)(g:Glob)(m:Nat)(x:Dat):Prop:=x=.nil∨∃k xs,x=.gsl k m xs∧b≤k∧g.toks[k]?=some (m,xs.length)
theorem Lv.nx{b m:Nat}{x:Dat}(h:Lv b g m x)(hn:Nx V g g1):Lv b g1 m x:=by
 rcases h with h|⟨k,xs,h1,h2,h3⟩
 ·exact .inl h
 ·obtain⟨l,e⟩:=hn.2
  refine .inr ⟨k,xs,h1,h2,?_⟩
  rw[e,List.getElem?_append_left (List.getElem?_eq_some_iff.1 h3).1]
  exact h3
theorem papp0(hn:Nx V g0 g){m:Nat}{x y:Dat}(hl:Lv g0.toks.length g m x):
 ∃d g',gapp m x [y] (gtok g m 1)=some (d,g')∧elsOf d=elsOf x++[y]∧(∃k,d=.gsl k m (elsOf x++[y]))∧Lv g0.toks.length g' m d∧Nx V g0 g'∧g'.boxes=g.boxes∧(∀m' x',m'≠m→Lv g0.toks.length g m' x'→Lv g0.toks.length g' m' x'):=by
 obtain⟨l,e⟩:=hn.2
 have up:∀(l':List (Nat×Nat)) m' x',Lv g0.toks.length g m' x'→Lv g0.toks.length {g with toks:=g.toks++l'} m' x':=λl' m' x' h=>by
  rcases h with h|⟨k,xs,h1,h2,h3⟩
  ·exact .inl h
  ·exact .inr ⟨k,xs,h1,h2,by simp only[List.getElem?_append_left (List.getElem?_eq_some_iff.1 h3).1];exact h3⟩
 rcases hl with rfl|⟨k,xs,rfl,h2,h3⟩
 ·refine⟨_,_,rfl,rfl,⟨_,rfl⟩,.inr ⟨_,_,rfl,?_,?_⟩,⟨hn.1,l++[(m,1)]++[(m,1)],?_⟩,rfl,λm' x' _ h=>?_⟩
  ·simp only[gtok,e,List.length_append];omega
  ·simp[gtok]
  ·simp[gtok,e]
  ·have:=up ([(m,1)]++[(m,1)]) m' x' h
   simpa[gtok] using this
 ·have hk:=(List.getElem?_eq_some_iff.1 h3).1
  have h4:(gtok g m 1).toks[k]?=some (m,xs.length):=by
   simp only[gtok,List.getElem?_append_left hk]
   exact h3
  refine⟨.gsl k m (xs++[y]),{gtok g m 1 with toks:=(gtok g m 1).toks.set k (m,xs.length+1)},?_,rfl,⟨_,rfl⟩,.inr ⟨k,_,rfl,h2,?_⟩,⟨hn.1,?_⟩,rfl,λm' x' hm h=>?_⟩
  ·simp only[gapp,h4]
   simp
  ·have:k<(gtok g m 1).toks.length:=(List.getElem?_eq_some_iff.1 h4).1
   simp only[List.getElem?_set_self this,List.length_append,List.length_cons,List.length_nil]
  ·refine⟨(l++[(m,1)]).set (k-g0.toks.length) (m,xs.length+1),?_⟩
   simp only[gtok,e,List.append_assoc]
   rw[List.set_append_right _ _ h2]
  ·rcases up [(m,1)] m' x' h with h|⟨k',xs',h5,h6,h7⟩
   ·exact .inl h
   ·refine .inr ⟨k',xs',h5,h6,?_⟩
    have hne:k≠k':=by
     rintro rfl
     have h7:(gtok g m 1).toks[k]?=some (m',xs'.length):=h7
     rw[h4] at h7
     exact hm (congrArg Prod.fst (Option.some.inj h7)).symm
    simp only[List.getElem?_set_ne hne]
    exact h7
theorem papp(hn:Nx V g0 g){m:Nat}{x y:Dat}(hl:Lv g0.toks.length g m x)(hst:PSt V g r):
 ∃d g',gapp m x [y] (gtok g m 1)=some (d,g')∧elsOf d=elsOf x++[y]∧(∃k,d=.gsl k m (elsOf x++[y]))∧Lv g0.toks.length g' m d∧Nx V g0 g'∧PSt V g' r∧(∀m' x',m'≠m→Lv g0.toks.length g m' x'→Lv g0.toks.length g' m' x'):=by
 obtain⟨d,g',h1,h2,h3,h4,h5,h6,h7⟩:=papp0 (y:=y) hn hl
 refine⟨d,g',h1,h2,h3,h4,h5,?_,h7⟩
 unfold PSt
 rw[h6]
 exact hst
theorem Nx.tok{m n:Nat}:Nx V g (gtok g m n):=⟨λ_ _=>rfl,[(m,n)],rfl⟩
theorem fit20{n b:Nat}(hb:b≤200)(h:n≤2^30):Fits n b:=⟨by omega,Nat.le_trans (Nat.mul_le_mul h hb) (by decide)⟩
theorem slfit{e:TypeId}{b n:Nat}(he:TT.bytes e=some b)(hb:b≤200)(h:n≤2^30):SlFit TT e n:=⟨by omega,λb' hb'=>by
 rw[he] at hb'
 cases hb'
 exact(fit20 hb h).2⟩
theorem ty_gsl{tl te:TypeId}{k m b:Nat}{xs:List Dat}(hu:TT.und tl=some (.slice te))(hm:TT.size te=some m)(he:TT.bytes te=some b)(hb:b≤200)(hl:xs.length≤2^30)(hx:∀x∈xs,HasTy TT te x):HasTy TT tl (.gsl k m xs):=
 .gsl _ _ _ _ _ hu hm (slfit he hb hl) hx
theorem ty_sl{tl te:TypeId}{m b:Nat}{xs:List Dat}(hu:TT.und tl=some (.slice te))(hm:TT.size te=some m)(he:TT.bytes te=some b)(hb:b≤200)(hl:xs.length≤2^30)(hx:∀x∈xs,HasTy TT te x):HasTy TT tl (.sl m xs):=
 .sl _ _ _ _ hu hm (slfit he hb hl) hx
theorem bTy:TT.bytes 28=some 56:=by kernel_rfl
theorem bPt:TT.bytes 94=some 64:=by kernel_rfl
theorem bEx:TT.bytes 25=some 104:=by kernel_rfl
theorem bCn:TT.bytes 52=some 40:=by kernel_rfl
theorem bDc:TT.bytes 50=some 72:=by kernel_rfl
theorem bSt:TT.bytes 9=some 16:=by kernel_rfl
theorem zTy:TT.size 28=some 4:=by kernel_rfl
theorem zPt:TT.size 94=some 5:=by kernel_rfl
theorem zEx:TT.size 25=some 7:=by kernel_rfl
theorem zCn:TT.size 52=some 2:=by kernel_rfl
theorem zDc:TT.size 50=some 4:=by kernel_rfl
theorem zSt:TT.size 9=some 1:=by kernel_rfl
end Go.Proofs.YtmlghadphdpbjaaGreatDoor.Pa
