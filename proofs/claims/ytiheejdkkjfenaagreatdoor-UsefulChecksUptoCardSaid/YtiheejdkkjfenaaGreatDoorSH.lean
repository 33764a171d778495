/- What functions of the program do, printed by wip/tools/sx/sx.py. Useful: which patterns may be: the program's test. Useful: the program's Useful, Exhaustive. -/
import Derived.Test.YtiheejdkkjfenaaGreatDoorSG
set_option linter.all false
set_option autoImplicit false
set_option maxRecDepth 100000
namespace Go.Proofs.YtiheejdkkjfenaaGreatDoor.Pa
open Go Go.Proofs.YtiheejdkkjfenaaGreatDoor.Am
variable{x0 x1 x12 x2 x22 x33 x6 y2 y4:Dat}{n1 n13 n14 n2 n23 n24 n34 n35 n5 n7 n8:Int}{g:Glob}{Qf:OGP}{f1:FuncId}{c1 l3:List Dat}{p1 p2 p3:Nat}
def L74_3(n1 n5:Int)(y2:Dat)(g:Glob)(Qf:OGP):=LC 74 Tryz.f74 [1,1,0,1,0] Qf 2 [(1,iv n1),(2,.loc 2 0 0),(5,iv n5)] [(2,.whole 52 y2)] g
def lo74:List CuI:=[⟨3,[K 1,K 2,K 5],[(2,.whole 52)]⟩]
theorem w74(h0:Ha TT 52 x0)
 (h:L74_3 (IntKind.i64.wrap (n1-1)) 0 x0 g Qf):
 EvF TT 74 [x0,.int .i64 n1] g Qf:=
 sF Tryz.f74 lo74 [(52,x0),(3,.int .i64 n1)] ⟨h0,tyI rfl,trivial⟩ h
theorem w74_3
 (h:Br (decide (n5<((elO (fld y2 3)).length:Int))) (Br (decide (0≤n1)) (InB n5 (elO (fld y2 3)).length∧EvF TT 74 [gtE (elO (fld y2 3)) n5,.int .i64 n1] g (KQ Qf λv g'=>∃n,v=.d (.int .i64 n)∧L74_3 n (IntKind.i64.wrap (n5+1)) y2 g' Qf)) (Qf (.val (.d (.int .i64 n1))) g)) (Qf (.val (.d (.int .i64 n1))) g)):
 L74_3 n1 n5 y2 g Qf:=sC lo74 h
theorem w75(h0:Ha TT 86 x0)
 (h:EvF TT 122 [x0,.clo f1 c1] g (KQ Qf λv g'=>∃n,v=.d (.int .i64 n)∧Qf (.val (.d (.bool (decide (0≤n))))) g')):
 EvF TT 75 [x0,.clo f1 c1] g Qf:=
 sF Tryz.f75 [] [(86,x0),(128,.clo f1 c1)] ⟨h0,tC rfl,trivial⟩ h
def L122_2(x0:Dat)(f1:FuncId)(c1:List Dat)(n7 n8:Int)(g:Glob)(Qf:OGP):=LC 122 Tryz.f122 [1,0,1,0] Qf 2 [(0,.v 86 (x0)),(1,.v 128 (.clo f1 c1)),(7,iv n7),(8,iv n8)] [] g
def lo122:List CuI:=[⟨2,[K 0,K 1,K 7,K 8],[]⟩]
theorem w122(h0:Ha TT 86 x0)
 (h:L122_2 x0 f1 c1 ((elO x0).length:Int) 0 g Qf):
 EvF TT 122 [x0,.clo f1 c1] g Qf:=
 sF Tryz.f122 lo122 [(86,x0),(128,.clo f1 c1)] ⟨h0,tC rfl,trivial⟩ h
theorem w122_2
 (h:Br (decide (n8<n7)) (InB n8 (elO x0).length∧EvF TT f1 (fld (gtE (elO x0) n8) 0::c1) g (KQ Qf λv g'=>∃b,v=.d (.bool b)∧Br b (Qf (.val (.d (.int .i64 n8))) g') (L122_2 x0 f1 c1 n7 (IntKind.i64.wrap (n8+1)) g' Qf))) (Qf (.val (.d (.int .i64 (-1)))) g)):
 L122_2 x0 f1 c1 n7 n8 g Qf:=sC lo122 h
theorem w76(h0:Ha TT 24 x0)
 (h:EvF TT 77 [x0,.clo 78 [.ptr (some (p1,0))]] g (KQ Qf λv g'=>∃b,v=.d (.bool b)∧Qf (.val (.d (.bool b))) g')):
 EvF TT 76 [x0,.ptr (some (p1,0))] g Qf:=
 sF Tryz.f76 [] [(24,x0),(0,.ptr (some (p1,0)))] ⟨h0,tyr rfl,trivial⟩ h
theorem w78(h0:Ha TT 52 x0)
 (h:∃x,Ha TT 22 x∧GOk TT 22 g p1 0 x∧EvF TT 79 [x,x0,.int .i64 1] g (KQ Qf λv g'=>∃b,v=.d (.bool b)∧Qf (.val (.d (.bool !b))) g')):
 EvF TT 78 [x0,.ptr (some (p1,0))] g Qf:=
 sF Tryz.f78 [] [(52,x0),(0,.ptr (some (p1,0)))] ⟨h0,tyr rfl,trivial⟩ h
theorem w79(h0:Ha TT 22 x0)(h1:Ha TT 52 x1)
 (h:Br (decide (intOf (fld x1 0)<1)) (Qf (.val (.d (.bool false))) (gne (gne g [x0]) [.int .i64 n2])) (Br (decide (4<intOf (fld x1 0))) (Qf (.val (.d (.bool false))) (gne (gne g [x0]) [.int .i64 n2])) (∃n,GOk TT 3 (gne (gne g [x0]) [.int .i64 n2]) (gne g [x0]).boxes.length 0 (.int .i64 n)∧Br (decide (256<n)) (Qf (.val (.d (.bool false))) (gne (gne g [x0]) [.int .i64 n2])) (Br (intOf (fld x1 0)==4) (∃x,Ha TT 22 x∧GOk TT 22 (gne (gne g [x0]) [.int .i64 n2]) g.boxes.length 0 x∧EvF TT 49 [x,.str (strOf (fld x1 1))] (gne (gne g [x0]) [.int .i64 n2]) (KQ Qf λv g'=>∃n n_1 b,Ret v [.int .i64 n,.int .i64 n_1,.bool b]∧Br (!b) (Qf (.val (.d (.bool false))) g') (∃x,Ha TT 22 x∧GOk TT 22 g' g.boxes.length 0 x∧InB n (elO x).length∧InB n_1 (elO (fld (gtE (elO x) n) 2)).length∧Br (((elO (fld (gtE (elO (fld (gtE (elO x) n) 2)) n_1) 1)).length:Int)!=((elO (fld x1 3)).length:Int)) (Qf (.val (.d (.bool false))) g') (EvF TT 77 [fld x1 3,.clo 124 [.ptr (some (g.boxes.length,0)),.ptr (some ((gne g [x0]).boxes.length,0))]] g' (KQ Qf λv g'=>∃b,v=.d (.bool b)∧Qf (.val (.d (.bool !b))) g'))))) (EvF TT 77 [fld x1 3,.clo 124 [.ptr (some (g.boxes.length,0)),.ptr (some ((gne g [x0]).boxes.length,0))]] (gne (gne g [x0]) [.int .i64 n2]) (KQ Qf λv g'=>∃b,v=.d (.bool b)∧Qf (.val (.d (.bool !b))) g')))))):
 EvF TT 79 [x0,x1,.int .i64 n2] g Qf:=
 sF Tryz.f79 [] [(22,x0),(52,x1),(3,.int .i64 n2)] ⟨h0,h1,tyI rfl,trivial⟩ h
theorem w124(h0:Ha TT 52 x0)
 (h:∃x,Ha TT 22 x∧GOk TT 22 g p1 0 x∧∃n,GOk TT 3 g p2 0 (.int .i64 n)∧EvF TT 79 [x,x0,.int .i64 (IntKind.i64.wrap (n+1))] g (KQ Qf λv g'=>∃b,v=.d (.bool b)∧Qf (.val (.d (.bool !b))) g')):
 EvF TT 124 [x0,.ptr (some (p1,0)),.ptr (some (p2,0))] g Qf:=
 sF Tryz.f124 [] [(52,x0),(0,.ptr (some (p1,0))),(0,.ptr (some (p2,0)))] ⟨h0,tyr rfl,tyr rfl,trivial⟩ h
def L46_3(x1:Dat)(n2:Int)(p3:Nat)(n7:Int)(x12:Dat)(n13 n14:Int)(g:Glob)(Qf:OGP):=LC 46 Tryz.f46 [1,1,0,1,0] Qf 3 [(1,.v 86 (x1)),(2,iv n2),(3,.v 0 (.ptr (some (p3,0)))),(7,iv n7),(12,.v 86 (x12)),(13,iv n13),(14,iv n14)] [] g
def L46_8(x1:Dat)(n2:Int)(p3:Nat)(n7:Int)(x12:Dat)(n13 n14:Int)(x22:Dat)(n23 n24:Int)(g:Glob)(Qf:OGP):=LC 46 Tryz.f46 [1,1,0,1,0,0,1,1,0,0,1,1,1,0] Qf 3 [(1,.v 86 (x1)),(2,iv n2),(3,.v 0 (.ptr (some (p3,0)))),(7,iv n7),(12,.v 86 (x12)),(13,iv n13),(14,iv n14),(22,.v 24 (x22)),(23,iv n23),(24,iv n24)] [] g
def lo46:List CuI:=[⟨3,[K 1,K 2,K 3,K 7,K 12,K 13,K 14],[]⟩,⟨8,[K 1,K 2,K 3,K 7,K 12,K 13,K 14,K 22,K 23,K 24],[]⟩]
theorem w46(h0:Ha TT 22 x0)(h1:Ha TT 86 x1)
 (h:L46_3 x1 n2 g.boxes.length 2048 x1 ((elO x1).length:Int) 0 (gne g [x0]) Qf):
 EvF TT 46 [x0,x1,.int .i64 n2] g Qf:=
 sF Tryz.f46 lo46 [(22,x0),(86,x1),(3,.int .i64 n2)] ⟨h0,h1,tyI rfl,trivial⟩ h
theorem w46_3
 (h:Br (decide (n14<n13)) (InB n14 (elO x12).length∧Br (((elO (fld (gtE (elO x12) n14) 0)).length:Int)!=n2) (Qf (.val (.d (.bool false))) g) (L46_8 x1 n2 p3 n7 x12 n13 n14 (fld (gtE (elO x12) n14) 0) ((elO (fld (gtE (elO x12) n14) 0)).length:Int) 0 g Qf)) (EvF TT 75 [x1,.clo 76 [.ptr (some (p3,0))]] g (KQ Qf λv g'=>∃b,v=.d (.bool b)∧Qf (.val (.d (.bool !b))) g'))):
 L46_3 x1 n2 p3 n7 x12 n13 n14 g Qf:=sC lo46 h
theorem w46_8
 (h:Br (decide (n24<n23)) (InB n24 (elO x22).length∧EvF TT 74 [gtE (elO x22) n24,.int .i64 n7] g (KQ Qf λv g'=>∃n,v=.d (.int .i64 n)∧Br (decide (n<0)) (Qf (.val (.d (.bool false))) g') (L46_8 x1 n2 p3 n x12 n13 n14 x22 n23 (IntKind.i64.wrap (n24+1)) g' Qf))) (L46_3 x1 n2 p3 n7 x12 n13 (IntKind.i64.wrap (n14+1)) g Qf)):
 L46_8 x1 n2 p3 n7 x12 n13 n14 x22 n23 n24 g Qf:=sC lo46 h
theorem w47(h0:Ha TT 22 x0)(h1:Ha TT 86 x1)(h2:Ha TT 24 x2)
 (h:EvF TT 81 [.ptr (some ((gne (gne g [.bool false]) [.int .i64 0]).boxes.length,0)),x1,x2] (gne (gne (gne g [.bool false]) [.int .i64 0]) [x0,.int .i64 (intOf (.int .i64 0))]) λout g'=>Ou (λx=>Def TT [(80,[.ptr (some (g.boxes.length,0)),.ptr (some ((gne g [.bool false]).boxes.length,0))])] [(4,g.boxes.length,0),(33,(gne g [.bool false]).boxes.length,0)] (some x) g' Qf) (λv=>∃b,v=.d (.bool b)∧Gu g' g.boxes.length 0 1∧Gu (gp g' g.boxes.length 0 (.bool b)) (gne g [.bool false]).boxes.length 0 1∧Def TT [(80,[.ptr (some (g.boxes.length,0)),.ptr (some ((gne g [.bool false]).boxes.length,0))])] [(4,g.boxes.length,0),(33,(gne g [.bool false]).boxes.length,0)] none (gp (gp g' g.boxes.length 0 (.bool b)) (gne g [.bool false]).boxes.length 0 (.int .i64 0)) Qf) out):
 EvF TT 47 [x0,x1,x2] g Qf:=
 sF Tryz.f47 [] [(22,x0),(86,x1),(24,x2)] ⟨h0,h1,h2,trivial⟩ h
theorem w42(h0:Ha TT 22 x0)(h1:Ha TT 86 x1)(h2:Ha TT 24 x2)
 (h:EvF TT 72 [x1] g (KQ Qf λv g'=>∃x,Ha TT 86 x∧Rt v x∧Fits ((elO x).length+[x2].length) 24∧∃r g'_1,gpp 1 x [x2] (gto g' 1 1)=some (r,g'_1)∧EvF TT 46 [x0,r,.int .i64 ((elO x2).length:Int)] g'_1 (KQ Qf λv g'=>∃b,v=.d (.bool b)∧Br (!b) (Qf (.val (.tuple [.d (.bool false),.d (.int .i64 1)])) g') (EvF TT 47 [x0,x1,x2] g' (KQ Qf λv g'=>∃b n,Ret v [.bool b,.int .i64 n]∧Qf (.val (.tuple [.d (.bool b),.d (.int .i64 n)])) g'))))):
 EvF TT 42 [x0,x1,x2] g Qf:=
 sF Tryz.f42 [] [(22,x0),(86,x1),(24,x2)] ⟨h0,h1,h2,trivial⟩ h
def L43_3(l3:List Dat)(x6:Dat)(n7 n8:Int)(g:Glob)(Qf:OGP):=LC 43 Tryz.f43 [1,1,0,1,0] Qf 1 [(3,.acc [(16,0)] 86 1 l3),(6,.v 24 (x6)),(7,iv n7),(8,iv n8)] [] g
def lo43:List CuI:=[⟨3,[(3,.acc [16]),K 6,K 7,K 8],[]⟩]
theorem w43(h0:Ha TT 24 x0)
 (h:L43_3 [] x0 ((elO x0).length:Int) 0 g Qf):
 EvF TT 43 [x0] g Qf:=
 sF Tryz.f43 lo43 [(24,x0)] ⟨h0,trivial⟩ h
theorem w43_3
 (h:Br (decide (n8<n7)) (InB n8 (elO x6).length∧Fits (l3.length+[Dat.sl 5 [gtE (elO x6) n8]].length) 24∧L43_3 (l3++[Dat.sl 5 [gtE (elO x6) n8]]) x6 n7 (IntKind.i64.wrap (n8+1)) g Qf) (Qf (.val (rf 1 l3)) g)):
 L43_3 l3 x6 n7 n8 g Qf:=sC lo43 h
theorem w16(h0:Ha TT 22 x0)(h1:Ha TT 24 x1)
 (h:EvF TT 43 [x1] g (KQ Qf λv g'=>∃x,Ha TT 86 x∧Rt v x∧EvF TT 44 [.int .i64 1] g' (KQ Qf λv g'=>∃x_1,Ha TT 24 x_1∧Rt v x_1∧EvF TT 42 [x0,x,x_1] g' (KQ Qf λv g'=>∃b n,Ret v [.bool b,.int .i64 n]∧Br (!b) (Qf (.val (.tuple [.d (.bool (n==0)),.d (.int .i64 n)])) g') (Qf (.val (.tuple [.d (.bool false),.d (.int .i64 n)])) g'))))):
 EvF TT 16 [x0,x1] g Qf:=
 sF Tryz.f16 [] [(22,x0),(24,x1)] ⟨h0,h1,trivial⟩ h
def L36_8(x0 x33:Dat)(n34 n35:Int)(y4:Dat)(g:Glob)(Qf:OGP):=LC 36 Tryz.f36 [1,1,0,1,0] Qf 2 [(0,.v 22 (x0)),(4,.loc 4 0 0),(33,.v 23 (x33)),(34,iv n34),(35,iv n35)] [(4,.whole 35 y4)] g
def lo36:List CuI:=[⟨8,[K 0,K 4,K 33,K 34,K 35],[(4,.whole 35)]⟩]
theorem w36(h0:Ha TT 22 x0)(h1:Ha TT 26 x1)
 (h:Br (intOf (fld x1 0)==7) (EvF TT 16 [x0,fld x1 5] g (KQ Qf λv g'=>∃b n,Ret v [.bool b,.int .i64 n]∧Br (n==0) (Br (!b) (Qf (.val (.d (.agg [.int .i64 (intOf (.int .i64 170)),.int .i64 (intOf (.int .i64 (intOf (fld x1 6))))]))) g') (Br (n !=0) (Qf (.val (.d (.agg [.int .i64 (intOf (.int .i64 n)),.int .i64 (intOf (.int .i64 (intOf (fld x1 6))))]))) g') (L36_8 x0 (fld x1 4) ((elO (fld x1 4)).length:Int) 0 (.agg [.int .i64 0,.int .i64 0]) g' Qf))) (Br (n !=0) (Qf (.val (.d (.agg [.int .i64 (intOf (.int .i64 n)),.int .i64 (intOf (.int .i64 (intOf (fld x1 6))))]))) g') (L36_8 x0 (fld x1 4) ((elO (fld x1 4)).length:Int) 0 (.agg [.int .i64 0,.int .i64 0]) g' Qf)))) (L36_8 x0 (fld x1 4) ((elO (fld x1 4)).length:Int) 0 (.agg [.int .i64 0,.int .i64 0]) g Qf)):
 EvF TT 36 [x0,x1] g Qf:=
 sF Tryz.f36 lo36 [(22,x0),(26,x1)] ⟨h0,h1,trivial⟩ h
theorem w36_8
 (h:Br (decide (n35<n34)) (InB n35 (elO x33).length∧EvF TT 36 [x0,gtE (elO x33) n35] g (KQ Qf λv g'=>∃x,Ha TT 35 x∧v=.d x∧Br (!(intOf (fld x 0)==0&&(intOf (fld x 1)==0&&true))) (Qf (.val (.d (.agg [.int .i64 (intOf (fld x 0)),.int .i64 (intOf (fld x 1))]))) g') (L36_8 x0 x33 n34 (IntKind.i64.wrap (n35+1)) y4 g' Qf))) (Qf (.val (.d (.agg [.int .i64 0,.int .i64 0]))) g)):
 L36_8 x0 x33 n34 n35 y4 g Qf:=sC lo36 h
theorem w11(h0:Ha TT 28 x0)
 (h:EvF TT 35 [x0] g (KQ Qf λv g'=>∃x,Ha TT 35 x∧v=.d x∧Br (!(intOf (fld x 0)==0&&(intOf (fld x 1)==0&&true))) (Qf (.val (.d (.agg [.int .i64 (intOf (fld x 0)),.int .i64 (intOf (fld x 1))]))) g') (EvF TT 37 [x0] g' (KQ Qf λv g'=>∃x,Ha TT 22 x∧Rt v x∧EvF TT 36 [x,sub x0 1 7] g' (KQ Qf λv g'=>∃x,Ha TT 35 x∧v=.d x∧Qf (.val (.d (.agg [.int .i64 (intOf (fld x 0)),.int .i64 (intOf (fld x 1))]))) g'))))):
 EvF TT 11 [x0] g Qf:=
 sF Tryz.f11 [] [(28,x0)] ⟨h0,trivial⟩ h
end Go.Proofs.YtiheejdkkjfenaaGreatDoor.Pa
namespace Go.Proofs.YtiheejdkkjfenaaGreatDoor.Pa
open Go Go.Proofs.YtiheejdkkjfenaaGreatDoor.Am
theorem cou:∀(k:Nat) (x:Dat) (g:Glob) (n1:Int),SizeOf.sizeOf x<k→Ha TT 52 x→0≤n1→n1≤2048→∀(Qf:OGP),Qf (.val (.d (.int .i64 (lft n1 (sPt (aP x)))))) g→EvF TT 74 [x,.int .i64 n1] g Qf
 |0,x,g,n1,hk,_,_,_=>by omega
 |k+1,x,g,n1,hk,hx,h0,h1=>by
  intro Qf hQ;refine w74 hx ?_;obtain⟨k1,s1,v1,a1,p1,rfl,hs1,t1⟩:=ptt hx;have ex:=t1.els uP;have exl:=ex.1.1;have hc:=sO (cs:=[.int .i64 k1,.str s1,.int .i64 v1,a1,.int .i64 p1]) (c:=a1) (by simp);rw[wrp (by omega) (by omega)];have hz:lft n1 (sPt (aP (.agg [.int .i64 k1,.str s1,.int .i64 v1,a1,.int .i64 p1])))=lft (n1-1) (szP (((elO a1).drop 0).map aP)):=by
   simp only[aP,sPt,abP,List.drop_zero];rw[lfa];congr 1;unfold lft;split<;>omega
  rw[hz] at hQ;refine lU (len:=(elO a1).length) (λi=>∀n:Int,-1≤n→n≤2048→Qf (.val (.d (.int .i64 (lft n (szP (((elO a1).drop i).map aP)))))) g→L74_3 n (i:Int) (.agg [.int .i64 k1,.str s1,.int .i64 v1,a1,.int .i64 p1]) g Qf) ?_ ?_ 0 (Nat.zero_le _) (n1-1) (by omega) (by omega) hQ
  ·intro n h0 h1 hQ;refine w74_3 ?_;rw[show(fld (Dat.agg [.int .i64 k1,.str s1,.int .i64 v1,a1,.int .i64 p1]) 3)=a1 from rfl,Bg];rw[List.drop_length,show lft n (szP (([]:List Dat).map aP))=n from by simp only[List.map_nil,szP,lft];split<;>omega] at hQ;exact hQ
  ·intro i hi ih n h0 h1 hQ;refine w74_3 ?_;rw[show(fld (Dat.agg [.int .i64 k1,.str s1,.int .i64 v1,a1,.int .i64 p1]) 3)=a1 from rfl,Bl hi,geE hi];refine Bi.2 ⟨λq=>⟨inB hi,?_⟩,λq=>?_⟩
   ·have hsz:=siz hi;refine cou k _ g _ (by omega) (ex.2 _ (List.getElem_mem hi)) (of_decide_eq_true q) h1 _ ⟨_,rfl,?_⟩;rw[wra (by omega)];refine ih _ (lg _ h1).1 (lg _ h1).2 ?_;rw[←lfa,←szt hi];exact hQ
   ·rw[lfl _ (by have:=of_decide_eq_false q;omega) h0] at hQ;exact hQ
mutual
def ftB(D:List Dc):Nat→Pt→Bool
 |d,.mk k s _ a _=>(decide (1≤k)&&decide (k≤4))&&(decide (d≤256)&&((!(k==4)||((fD s D 0).2.2&&nFi D s==a.length))&&fiB D (d+1) a))
def fiB(D:List Dc):Nat→List Pt→Bool
 |_,[]=>true
 |d,x::l=>ftB D d x&&fiB D d l
end
theorem fil(D:List Dc)(d:Nat)(l:List Pt):fiB D d l=l.all (ftB D d):=by induction l with
 |nil=>rfl
 |cons x l ih=>rw[fiB,List.all_cons,ih]
mutual
theorem fik(D:List Dc):∀(d:Nat) (x:Pt),ftB D d x=true→okP D x=true
 |d,.mk k s n a p,h=>by
  simp only[ftB,Bool.and_eq_true] at h;simp only[okP,Bool.and_eq_true];exact⟨h.1,h.2.2.1,fts D _ a h.2.2.2⟩
theorem fts(D:List Dc):∀(d:Nat) (l:List Pt),fiB D d l=true→oPs D l=true
 |_,[],_=>rfl
 |d,x::l,h=>by
  simp only[fiB,Bool.and_eq_true] at h;simp only[oPs,Bool.and_eq_true];exact⟨fik D d x h.1,fts D d l h.2⟩
end
def maB(D:List Dc)(rows:List (List Pt))(cols:Nat):Bool:=
 rows.all (λr=>r.length==cols)&&(decide ((rows.map szP).sum≤2048)&&rows.all λr=>r.all (ftB D 1))
def gu(cols:Nat):Int→List (List Pt)→Bool
 |n,[]=>true
 |n,r::l=>(r.length==cols)&&(decide (0≤lft n (szP r))&&gu cols (lft n (szP r)) l)
theorem gq(cols:Nat):∀(l:List (List Pt)) (n:Int),0≤n→gu cols n l=(l.all (λr=>r.length==cols)&&decide (((l.map szP).sum:Int)≤n))
 |[],n,h=>by simp[gu,h]
 |r::l,n,h=>by
  rw[gu,List.all_cons,List.map_cons,List.sum_cons]
  by_cases hr:(szP r:Int)≤n
  ·have e:lft n (szP r)=n-szP r:=if_pos hr;rw[e,gq cols l _ (by omega)];have e1:decide (0≤n-(szP r:Int))=true:=decide_eq_true (by omega);have e2:decide (((l.map szP).sum:Int)≤n-szP r)=decide (((szP r+(l.map szP).sum:Nat):Int)≤n):=by
    rw[decide_eq_decide];omega
   rw[e1,e2,Bool.true_and,Bool.and_assoc]
  ·have e:lft n (szP r)=-1:=if_neg hr;have e2:decide (((szP r+(l.map szP).sum:Nat):Int)≤n)=false:=decide_eq_false (by omega);rw[e,e2,Bool.and_false,show decide ((0:Int)≤-1)=false from rfl,Bool.false_and,Bool.and_false]
section
variable{g:Glob}{Qf:OGP}
theorem coP{f:FuncId}{c:List Dat}{p:Dat→Bool}{x:Dat}(hx:Ha TT 24 x)
 (hf:∀y∈elO x,∀g1,Kp [] 0 g g1→∀Q:Out→Glob→Prop,(∀g2,Kp [] 0 g1 g2→Q (.val (.d (.bool (p y)))) g2)→EvF TT f (y::c) g1 Q) (hQ:∀g',Kp [] 0 g g'→Qf (.val (.d (.bool ((elO x).any p)))) g'):EvF TT 77 [x,.clo f c] g Qf:=by
 have exl:=lel uP hx;refine w77 hx (w123 hx ?_);refine lU (len:=(elO x).length) (λi=>∀g1,Kp [] 0 g g1→(∀g',Kp [] 0 g g'→Qf (.val (.d (.bool (((elO x).drop i).any p)))) g')→L123_2 x f c ((elO x).length:Int) (i:Int) g1 ((KQ Qf λv g'=>∃n,v=Val.d (Dat.int IntKind.i64 n)∧Qf (Out.val (Val.d (Dat.bool (decide (0≤n))))) g'))) ?_ ?_ 0 (Nat.zero_le _) g (Kp.refl _ _ _) hQ
 ·intro g1 k h;refine w123_2 ?_;rw[Bg];rw[List.drop_length] at h;exact⟨_,rfl,h g1 k⟩
 ·intro i hi ih g1 k h;refine w123_2 ?_;rw[Bl hi,geE hi];rw[List.drop_eq_getElem_cons hi,List.any_cons] at h;refine⟨inB hi,hf _ (List.getElem_mem hi) g1 k _ λg2 k2=>⟨_,rfl,Bi.2 ⟨λq=>⟨_,rfl,?_⟩,λq=>?_⟩⟩⟩
  ·rw[q,Bool.true_or] at h;have e:decide ((0:Int)≤(i:Int))=true:=decide_eq_true (by omega);rw[e];exact h g2 (k.trans k2)
  ·rw[wra (by omega)];rw[q,Bool.false_or] at h;exact ih g2 (k.trans k2) h
theorem coR{f:FuncId}{c:List Dat}{p:Dat→Bool}{x:Dat}(hx:Ha TT 86 x)
 (hf:∀y∈elO x,∀g1,Kp [] 0 g g1→∀Q:Out→Glob→Prop,(∀g2,Kp [] 0 g1 g2→Q (.val (.d (.bool (p y)))) g2)→EvF TT f (y::c) g1 Q) (hQ:∀g',Kp [] 0 g g'→Qf (.val (.d (.bool ((elO x).any p)))) g'):EvF TT 75 [x,.clo f c] g Qf:=by
 have exl:=lel uo hx;have ex:=hx.els uo;refine w75 hx (w122 hx ?_);refine lU (len:=(elO x).length) (λi=>∀g1,Kp [] 0 g g1→(∀g',Kp [] 0 g g'→Qf (.val (.d (.bool (((elO x).drop i).any p)))) g')→L122_2 x f c ((elO x).length:Int) (i:Int) g1 ((KQ Qf λv g'=>∃n,v=Val.d (Dat.int IntKind.i64 n)∧Qf (Out.val (Val.d (Dat.bool (decide (0≤n))))) g'))) ?_ ?_ 0 (Nat.zero_le _) g (Kp.refl _ _ _) hQ
 ·intro g1 k h;refine w122_2 ?_;rw[Bg];rw[List.drop_length] at h;exact⟨_,rfl,h g1 k⟩
 ·intro i hi ih g1 k h;refine w122_2 ?_;rw[Bl hi,geE hi,flr (ex.2 _ (List.getElem_mem hi))];rw[List.drop_eq_getElem_cons hi,List.any_cons] at h;refine⟨inB hi,hf _ (List.getElem_mem hi) g1 k _ λg2 k2=>⟨_,rfl,Bi.2 ⟨λq=>⟨_,rfl,?_⟩,λq=>?_⟩⟩⟩
  ·rw[q,Bool.true_or] at h;have e:decide ((0:Int)≤(i:Int))=true:=decide_eq_true (by omega);rw[e];exact h g2 (k.trans k2)
  ·rw[wra (by omega)];rw[q,Bool.false_or] at h;exact ih g2 (k.trans k2) h
end
theorem dcl{l:Dat}{s:Str}(hl:Ha TT 22 l)(hf:(fD s (DD l) 0).2.2=true):
 ∃n m:Int,(fD s (DD l) 0).1=n∧(fD s (DD l) 0).2.1=m∧InB n (elO l).length∧InB m (elO (fld (gtE (elO l) n) 2)).length∧(elO (fld (gtE (elO (fld (gtE (elO l) n) 2)) m) 1)).length=nFi (DD l) s:=by
 obtain⟨n,d1,d2,d3,d4⟩:=deo hl hf;rcases fid s (DD l) 0 with ⟨k,j,d,c,h1,h2,h3,_⟩|⟨h1,_⟩
 ·have hc:cO (DD l) s=d.cs:=by
   unfold cO;rw[h1];simp only[Int.zero_add,Int.toNat_natCast,h2]
  rw[hc] at d4;have hj:j<(elO (fld (gtE (elO l) n) 2)).length:=by
   have:=(List.getElem?_eq_some_iff.1 h3).1;rw[←d4,List.length_map] at this;exact this
  refine⟨n,(j:Int),d1,by rw[h1],d2,inB hj,?_⟩;have tc:=(d3.els uC).2 _ (List.getElem_mem hj);rw[geE hj,(cof tc).2.1];have hcj:aC (elO (fld (gtE (elO l) n) 2))[j]=c:=by
   rw[←d4,List.getElem?_map,List.getElem?_eq_getElem hj] at h3;exact Option.some.inj h3
  unfold nFi;rw[hc,h1];simp only[Int.toNat_natCast,h3];rw[hcj]
 ·rw[h1] at hf;cases hf
theorem fto{l:Dat}(hl:Ha TT 22 l):∀(k:Nat) (x:Dat) (d:Nat) (g:Glob),SizeOf.sizeOf x<k→Ha TT 52 x→d≤257→∀(Qf:OGP),(∀g',Kp [] 0 g g'→Qf (.val (.d (.bool (ftB (DD l) d (aP x))))) g')→EvF TT 79 [l,x,.int .i64 d] g Qf
 |0,x,d,g,hk,_,_=>by omega
 |k+1,x,d,g,hk,hx,hd=>by
  intro Qf hQ;have hw:=w79 (n2:=(d:Int)) (g:=g) (Qf:=Qf) hl hx;obtain⟨k1,s1,n1,a1,q1,rfl,hs1,t1⟩:=ptt hx;have hab:aP (.agg [.int .i64 k1,.str s1,.int .i64 n1,a1,.int .i64 q1])=.mk k1 s1 n1 (roA a1) q1:=by unfold roA;rw[←abP];rfl
  rw[hab] at hQ;simp only[ftB] at hQ;have hc:=sO (cs:=[.int .i64 k1,.str s1,.int .i64 n1,a1,.int .i64 q1]) (c:=a1) (by simp);have e1:=t1.els uP;refine hw ?_;have kA:Kp [] 0 g (gne (gne g [l]) [Dat.int IntKind.i64 (d:Int)]):=(kw g _ 0).trans (kw _ _ 0);have b1:(gne (gne g [l]) [Dat.int IntKind.i64 (d:Int)]).boxes[g.boxes.length]?=some (.cells [.d l]):=by rw[gno _ (by rw[gnl];omega)];exact gnw _ _
  have b2:(gne (gne g [l]) [Dat.int IntKind.i64 (d:Int)]).boxes[(gne g [l]).boxes.length]?=some (.cells [.d (.int .i64 (d:Int))]):=gnw _ _;generalize (gne (gne g [l]) [Dat.int IntKind.i64 (d:Int)])=G at*;generalize (gne g [l]).boxes.length=pd at*;have f0:intOf (fld (.agg [.int .i64 k1,.str s1,.int .i64 n1,a1,.int .i64 q1]) 0)=k1:=rfl;have f1:strOf (fld (.agg [.int .i64 k1,.str s1,.int .i64 n1,a1,.int .i64 q1]) 1)=s1:=rfl;have f3:fld (.agg [.int .i64 k1,.str s1,.int .i64 n1,a1,.int .i64 q1]) 3=a1:=rfl;rw[f0,f1,f3];have gl:∀g',Kp [] 0 G g'→GOk TT 22 g' g.boxes.length 0 l:=λg' kk=>gok uD sze rfl (kk.at b1 (by simp)) rfl;have fin:∀b,(((decide (1≤k1)&&decide (k1≤4))&&(decide (d≤256)&&((!(k1==4)||((fD s1 (DD l) 0).2.2&&nFi (DD l) s1==(roA a1).length))&&fiB (DD l) (d+1) (roA a1))))=b)→∀g',Kp [] 0 G g'→Qf (.val (.d (.bool b))) g':=λb e g' kk=>by
   have:=hQ g' (kA.trans kk);rw[e] at this;exact this
  -- the parts
  have parts:d≤256→∀g',Kp [] 0 G g'→(∀g'',Kp [] 0 g' g''→Qf (.val (.d (.bool (fiB (DD l) (d+1) (roA a1))))) g'')→
   EvF TT 77 [a1,Dat.clo 124 [Dat.ptr (some (g.boxes.length,0)),Dat.ptr (some (pd,0))]] g' (KQ Qf λv g'=>∃b,v=Val.d (Dat.bool b)∧Qf (Out.val (Val.d (Dat.bool !b))) g'):=λhd' g' kk hq=>by
   refine coP (p:=λy=>!ftB (DD l) (d+1) (aP y)) t1 (λy hy g1 k1' Q hq'=>?_) (λg'' k''=>⟨_,rfl,?_⟩)
   ·have ty:=e1.2 _ hy;have hsz:SizeOf.sizeOf y<SizeOf.sizeOf a1:=by
     obtain⟨i,hi,rfl⟩:=List.mem_iff_getElem.1 hy;exact siz hi
    refine w124 ty ⟨l,hl,gl _ (kk.trans k1'),(d:Int),gok uI szI rfl ((kk.trans k1').at b2 (by simp)) rfl,?_⟩;rw[wra (by omega)];exact fto hl k y (d+1) g1 (by omega) ty (by omega) _ λg2 k2=>⟨_,rfl,hq' g2 k2⟩
   ·have e:(!(elO a1).any λy=>!ftB (DD l) (d+1) (aP y))=fiB (DD l) (d+1) (roA a1):=by
     rw[fil,List.not_any_eq_all_not];unfold roA;rw[List.all_map];refine congrArg _ (funext λy=>?_);simp
    rw[e];exact hq g'' k''
  refine Bi.2 ⟨λq=>fin false ?_ G (Kp.refl _ _ _),λq=>Bi.2 ⟨λq2=>fin false ?_ G (Kp.refl _ _ _),λq2=>⟨(d:Int),gok uI szI rfl b2 rfl,Bi.2 ⟨λq3=>fin false ?_ G (Kp.refl _ _ _),λq3=>?_⟩⟩⟩⟩
  ·have:decide (1≤k1)=false:=decide_eq_false (by have:=of_decide_eq_true q;omega);rw[this];rfl
  ·have:decide (k1≤4)=false:=decide_eq_false (by have:=of_decide_eq_true q2;omega);rw[this,Bool.and_false];rfl
  ·have:decide (d≤256)=false:=decide_eq_false (by have:=of_decide_eq_true q3;omega);rw[this,Bool.false_and,Bool.and_false]
  ·have c1:decide (1≤k1)=true:=decide_eq_true (by have:=of_decide_eq_false q;omega);have c2:decide (k1≤4)=true:=decide_eq_true (by have:=of_decide_eq_false q2;omega);have hd':d≤256:=by have:=of_decide_eq_false q3;omega
   have c3:decide (d≤256)=true:=decide_eq_true hd';refine Bi.2 ⟨λq4=>⟨l,hl,gl G (Kp.refl _ _ _),find_ok l s1 G hl hs1 _ ⟨_,_,_,⟨rfl,rfl,rfl,trivial⟩,Bi.2 ⟨λq5=>fin false ?_ G (Kp.refl _ _ _),λq5=>⟨l,hl,gl G (Kp.refl _ _ _),?_⟩⟩⟩⟩,λq4=>parts hd' G (Kp.refl _ _ _) λg'' k''=>?_⟩
   ·rw[Bool.not_eq_true'] at q5;rw[q4,q5];simp
   ·rw[Bool.not_eq_false'] at q5;obtain⟨n,m,d1,d2,d3,d4,d5⟩:=dcl hl q5;rw[d1,d2];have hlen:(roA a1).length=(elO a1).length:=List.length_map _;refine⟨d3,d4,?_⟩;rw[d5];refine Bi.2 ⟨λq6=>fin false ?_ G (Kp.refl _ _ _),λq6=>parts hd' G (Kp.refl _ _ _) λg'' k''=>?_⟩
    ·have:(nFi (DD l) s1==(roA a1).length)=false:=by
      rw[hlen,beq_eq_false_iff_ne];intro e;rw[e] at q6;simp at q6
     rw[q4,this];simp
    ·have:(nFi (DD l) s1==(roA a1).length)=true:=by
      rw[hlen,beq_iff_eq];have:(nFi (DD l) s1:Int)=((elO a1).length:Int):=by simpa[bne] using q6
      omega
     have h:=fin _ rfl g'' k'';rw[c1,c2,c3,q4,q5,this] at h;exact h
   ·have h:=fin _ rfl g'' k'';rw[c1,c2,c3,q4] at h;exact h
end Go.Proofs.YtiheejdkkjfenaaGreatDoor.Pa
namespace Go.Proofs.YtiheejdkkjfenaaGreatDoor.Pa
open Go Go.Proofs.YtiheejdkkjfenaaGreatDoor.Am
noncomputable def c80:Code:=match recovers (bod Tryz.f80) with|some (_,c)=>c|none=>.skip
theorem dNo{p0 p1:Nat}{g:Glob}{K:Option Dat→Glob→Prop}(h:K none g):EvL TT [(80,[.ptr (some (p0,0)),.ptr (some (p1,0))])] none g K:=
 sxd (rk:=rk) (fn:=Tryz.f80) (c':=c80) (loops:=[]) (joins:=[]) (n:=100000) (d:=5) (t:=20) (args:=[(0,.ptr (some (p0,0))),(0,.ptr (some (p1,0)))]) rfl rfl (by kernel_rfl) (Nat.le_of_ble_eq_true (by kernel_rfl)) (by kernel_rfl) rfl
  ⟨.ptr _ _ (by kernel_rfl),.ptr _ _ (by kernel_rfl),trivial⟩ (.nilIface _ (by kernel_rfl)) (cast (by kernel_rfl) h)
theorem toT:Ha TT 130 (.agg []):=stu (tys:=[]) (by kernel_rfl) (by kernel_rfl) (by kernel_rfl) trivial
theorem dfo{p0 p1:Nat}{g:Glob}{K:Option Dat→Glob→Prop}
 (h:Gu g p0 0 1∧Gu (gp g p0 0 (Dat.bool false)) p1 0 1∧K none (gp (gp g p0 0 (Dat.bool false)) p1 0 (Dat.int IntKind.i64 3))):
 EvL TT [(80,[.ptr (some (p0,0)),.ptr (some (p1,0))])] (some (.iface 130 (.agg []))) g K:=
 sxd (rk:=rk) (fn:=Tryz.f80) (c':=c80) (loops:=[]) (joins:=[]) (n:=100000) (d:=5) (t:=20) (args:=[(0,.ptr (some (p0,0))),(0,.ptr (some (p1,0)))]) rfl rfl (by kernel_rfl) (Nat.le_of_ble_eq_true (by kernel_rfl)) (by kernel_rfl) rfl
  ⟨.ptr _ _ (by kernel_rfl),.ptr _ _ (by kernel_rfl),trivial⟩ (.iface _ _ _ (by kernel_rfl) toT) (cast (by kernel_rfl) h)
theorem unr:TT.und 33=some (.int .i64):=by kernel_rfl
theorem sA1:TT.size 33=some 1:=by kernel_rfl
theorem szB:TT.size 4=some 1:=by kernel_rfl
def ouB(b:Bool)(n:Int):Out:=.val (.tuple [.d (.bool b),.d (.int .i64 n)])
theorem pA2{g:Glob}{p0 p1:Nat}{b:Bool}{n:Int}(h0:g.boxes[p0]?=some (.cells [.d (.bool b)]))(h1:g.boxes[p1]?=some (.cells [.d (.int .i64 n)])):
 piV TT [(4,p0,0),(33,p1,0)] g=some (.tuple [.d (.bool b),.d (.int .i64 n)]):=by
 simp only[piV,List.map_cons,List.map_nil,gld (o:=0) (x:=.bool b) unB szB rfl h0 rfl,gld (o:=0) (x:=.int .i64 n) unr sA1 rfl h1 rfl,opA,Val.toD,Option.map_some]
theorem pA1{g:Glob}{p0 p1:Nat}{b0:Bool}{n0:Int}(hne:p0≠p1)(h0:g.boxes[p0]?=some (.cells [.d (.bool b0)]))(h1:g.boxes[p1]?=some (.cells [.d (.int .i64 n0)]))(b:Bool)(n:Int):
 Gu g p0 0 1∧Gu (gp g p0 0 (Dat.bool b)) p1 0 1∧(gp (gp g p0 0 (Dat.bool b)) p1 0 (Dat.int IntKind.i64 n)).boxes[p0]?=some (.cells [.d (.bool b)])∧(gp (gp g p0 0 (Dat.bool b)) p1 0 (Dat.int IntKind.i64 n)).boxes[p1]?=some (.cells [.d (.int .i64 n)])∧
  Kp [p0,p1] 0 g (gp (gp g p0 0 (Dat.bool b)) p1 0 (Dat.int IntKind.i64 n)):=by
 obtain⟨a1,a2⟩:=gpu (x:=.bool b) h0 rfl;rw[a2];have h1':({g with boxes:=g.boxes.set p0 (.cells [.d (.bool b)])}:Glob).boxes[p1]?=some (.cells [.d (.int .i64 n0)]):=by
  show(g.boxes.set p0 _)[p1]?=_;rw[List.getElem?_set_ne hne];exact h1
 obtain⟨b1,b2⟩:=gpu (x:=.int .i64 n) h1' rfl;rw[b2];have l0:=(List.getElem?_eq_some_iff.1 h0).1;have l1:=(List.getElem?_eq_some_iff.1 h1).1;refine⟨a1,b1,?_,?_,(kpe g p0 _ 0 |>.le (by simp) (Nat.le_refl _)).trans (kpe _ p1 _ 0 |>.le (by simp) (Nat.le_refl _))⟩
 ·show((g.boxes.set p0 _).set p1 _)[p0]?=_;rw[List.getElem?_set_ne (Ne.symm hne),List.getElem?_set_self l0]
 ·show((g.boxes.set p0 _).set p1 _)[p1]?=_;rw[List.getElem?_set_self (by rw[List.length_set];exact l1)]
def aF(D:List Dc)(rows:List (List Pt))(row:List Pt):Bool×Int:=match uU D 65537 65536 rows row with
 |some (b,_)=>(b,0)
 |none=>(false,3)
theorem ase{l X Y:Dat}{g:Glob}(hl:Ha TT 22 l)(hF:Few (DD l) 2097152)(tX:Ha TT 86 X)(tY:Ha TT 24 Y)(hi:IU (DD l) 2097152 (ros X) (roA Y))(Qf:OGP)
 (hQ:∀g',Kp [] 0 g g'→Qf (ouB (aF (DD l) (ros X) (roA Y)).1 (aF (DD l) (ros X) (roA Y)).2) g'):EvF TT 47 [l,X,Y] g Qf:=by
 refine w47 hl tX tY ?_;have l1:(gne g [Dat.bool false]).boxes.length=g.boxes.length+1:=gnl _ _;have l2:(gne (gne g [Dat.bool false]) [Dat.int IntKind.i64 0]).boxes.length=g.boxes.length+2:=by rw[gnl,gnl]
 have kA:Kp [] 0 g (gne (gne (gne g [Dat.bool false]) [Dat.int IntKind.i64 0]) [l,Dat.int IntKind.i64 (intOf (Dat.int IntKind.i64 0))]):=((kw g _ 0).trans (kw _ _ 0)).trans (kw _ _ 0);have b0:(gne (gne (gne g [Dat.bool false]) [Dat.int IntKind.i64 0]) [l,Dat.int IntKind.i64 (intOf (Dat.int IntKind.i64 0))]).boxes[g.boxes.length]?=some (.cells [.d (.bool false)]):=by
  rw[gno _ (by omega),gno _ (by omega)];exact gnw _ _
 have b1:(gne (gne (gne g [Dat.bool false]) [Dat.int IntKind.i64 0]) [l,Dat.int IntKind.i64 (intOf (Dat.int IntKind.i64 0))]).boxes[(gne g [Dat.bool false]).boxes.length]?=some (.cells [.d (.int .i64 0)]):=by
  rw[gno _ (by omega)];exact gnw _ _
 have b2:Ak (gne (gne (gne g [Dat.bool false]) [Dat.int IntKind.i64 0]) [l,Dat.int IntKind.i64 (intOf (Dat.int IntKind.i64 0))]) (gne (gne g [Dat.bool false]) [Dat.int IntKind.i64 0]).boxes.length l 65536:=gnw _ _;generalize (gne (gne (gne g [Dat.bool false]) [Dat.int IntKind.i64 0]) [l,Dat.int IntKind.i64 (intOf (Dat.int IntKind.i64 0))])=G at*;rw[l2,l1] at*;have out:∀g',Kp [g.boxes.length+2] 0 G g'→∀g'',Kp [g.boxes.length,g.boxes.length+1] 0 g' g''→Kp [] 0 g g'':=λg' k1 g'' k2=>by
  refine⟨Nat.le_trans kA.len (Nat.le_trans k1.len k2.len),λj hj _=>?_,Nat.le_trans kA.tlen (Nat.le_trans k1.tlen k2.tlen),λj hj=>by omega⟩;have h1:=kA.len;rw[k2.box j (by have:=k1.len;omega) (by simp;omega),k1.box j (by omega) (by simp;omega),kA.box j hj (by simp)]
 refine ueo hl hF 65537 65536 (g.boxes.length+2) X Y G _ (by omega) (Nat.le_refl _) (Nat.le_refl _) tX tY b2 (by simpa using hi) (λb m' g' e k _=>?_) (λg' e k=>?_)
 ·have c0:=k.at b0 (by simp);have c1:=k.at b1 (by simp);obtain⟨d1,d2,d3,d4,d5⟩:=pA1 (by omega) c0 c1 b 0;refine⟨b,rfl,d1,d2,dNo ⟨_,pA2 d3 d4,?_⟩⟩;have hh:=hQ _ (out _ k _ d5);have ea:aF (DD l) (ros X) (roA Y)=(b,0):=by unfold aF;rw[e]
  rw[ea] at hh;exact hh
 ·have c0:=k.at b0 (by simp);have c1:=k.at b1 (by simp);obtain⟨d1,d2,d3,d4,d5⟩:=pA1 (by omega) c0 c1 false 3;refine dfo ⟨d1,d2,_,pA2 d3 d4,?_⟩;have hh:=hQ _ (out _ k _ d5);have ea:aF (DD l) (ros X) (roA Y)=(false,3):=by unfold aF;rw[e]
  rw[ea] at hh;exact hh
theorem myk{l X:Dat}{cols:Nat}{g:Glob}(hl:Ha TT 22 l)(tX:Ha TT 86 X)(Qf:OGP)
 (hQ:∀g',Kp [] 0 g g'→Qf (.val (.d (.bool (maB (DD l) (ros X) cols)))) g'):EvF TT 46 [l,X,.int .i64 cols] g Qf:=by
 have eX:=tX.els uo;have eXl:=eX.1.1;have hlen:(ros X).length=(elO X).length:=List.length_map _;have kA:=kw g [l] 0;have bA:=gnw g [l];refine w46 hl tX ?_;generalize gne g [l]=G at*
 -- by the counting
 have hmay:maB (DD l) (ros X) cols=(gu cols 2048 (ros X)&&(ros X).all λr=>r.all (ftB (DD l) 1)):=by
  unfold maB;rw[gq cols _ _ (by omega),Bool.and_assoc];congr 2;rw[decide_eq_decide];omega
 rw[hmay] at hQ;have no:gu cols 2048 (ros X)=false→Qf (.val (.d (.bool false))) G:=λh=>by
  have:=hQ G kA;rw[h] at this;exact this
 refine lU (len:=(elO X).length) (λi=>∀n:Int,0≤n→n≤2048→gu cols n ((ros X).drop i)=gu cols 2048 (ros X)→L46_3 X (cols:Int) g.boxes.length n X ((elO X).length:Int) (i:Int) G Qf) ?_ ?_ 0 (Nat.zero_le _) 2048 (by omega) (by omega) rfl
 ·intro n h0 h1 he;refine w46_3 ?_;rw[Bg];rw[←hlen,List.drop_length] at he;have ht:gu cols 2048 (ros X)=true:=by rw[←he];rfl
  rw[ht,Bool.true_and] at hQ;refine coR (p:=λr=>!(roA r).all (ftB (DD l) 1)) tX (λy hy g1 k1 Q hq=>?_) (λg' k=>⟨_,rfl,?_⟩)
  ·have ty:=eX.2 _ hy;refine w76 ty ?_;refine coP (p:=λa=>!ftB (DD l) 1 (aP a)) ty (λa ha g2 k2 Q' hq'=>?_) (λg2 k2=>⟨_,rfl,?_⟩)
   ·have ta:=(ty.els uP).2 _ ha;refine w78 ta ⟨l,hl,gok uD sze rfl ((k1.trans k2).at bA (by simp)) rfl,?_⟩;exact fto hl _ a 1 g2 (Nat.lt_succ_self _) ta (by omega) _ λg3 k3=>⟨_,rfl,hq' g3 k3⟩
   ·have e:((elO y).any λa=>!ftB (DD l) 1 (aP a))=!(roA y).all (ftB (DD l) 1):=by
     unfold roA;rw[List.all_map,List.not_all_eq_any_not];rfl
    rw[e];exact hq g2 k2
  ·have e:(!(elO X).any λr=>!(roA r).all (ftB (DD l) 1))=(ros X).all λr=>r.all (ftB (DD l) 1):=by
    unfold ros;rw[List.all_map,List.not_any_eq_all_not];refine congrArg _ (funext λy=>?_);simp
   rw[e];exact hQ g' (kA.trans k)
 ·intro i hi ih n h0 h1 he;have hi':i<(ros X).length:=by omega
  have hr:(ros X)[i]=roA (elO X)[i]:=List.getElem_map _;have te:=eX.2 _ (List.getElem_mem hi);have ee:=te.els uP;have eel:=ee.1.1;have hl0:(roA (elO X)[i]).length=(elO (elO X)[i]).length:=List.length_map _;rw[List.drop_eq_getElem_cons hi',hr] at he;refine w46_3 ?_;rw[Bl hi,geE hi,flr te];refine⟨inB hi,Bi.2 ⟨λq=>no ?_,λq=>?_⟩⟩
  ·have:((roA (elO X)[i]).length==cols)=false:=by
    rw[hl0,beq_eq_false_iff_ne];intro e;rw[e] at q;simp at q
   rw[←he,gu,this,Bool.false_and]
  ·have hc:((roA (elO X)[i]).length==cols)=true:=by
    have:((elO (elO X)[i]).length:Int)=(cols:Int):=by simpa[bne] using q
    rw[hl0,beq_iff_eq];omega
   rw[gu,hc,Bool.true_and] at he;refine lU (len:=(elO (elO X)[i]).length) (λj=>∀k:Int,0≤k→k≤2048→lft k (szP (((elO (elO X)[i]).drop j).map aP))=lft n (szP (roA (elO X)[i]))→L46_8 X (cols:Int) g.boxes.length k X ((elO X).length:Int) (i:Int) (elO X)[i] ((elO (elO X)[i]).length:Int) (j:Int) G Qf) ?_ ?_ 0 (Nat.zero_le _) n h0 h1 rfl
   ·intro k k0 k1 hk;refine w46_8 ?_;rw[Bg,wra (by omega)];have e0:lft k (szP (([]:List Dat).map aP))=k:=by simp only[List.map_nil,szP,lft];split<;>omega
    rw[List.drop_length,e0] at hk;rw[←hk] at he;have e1:decide (0≤k)=true:=decide_eq_true k0;rw[e1,Bool.true_and] at he;exact ih k k0 k1 he
   ·intro j hj ihj k k0 k1 hk;refine w46_8 ?_;rw[Bl hj,geE hj];rw[szt hj,lfa] at hk;refine⟨inB hj,cou _ _ G k (Nat.lt_succ_self _) (ee.2 _ (List.getElem_mem hj)) k0 k1 _ ⟨_,rfl,Bi.2 ⟨λq2=>no ?_,λq2=>?_⟩⟩⟩
    ·have hneg:=of_decide_eq_true q2;rw[lfl _ hneg (lg _ k1).1] at hk;rw[←he,←hk];have:decide (0≤lft k (sPt (aP (elO (elO X)[i])[j])))=false:=decide_eq_false (by omega);rw[this,Bool.false_and]
    ·have hpos:=of_decide_eq_false q2;rw[wra (by omega)];exact ihj _ (by omega) (lg _ k1).2 hk
def uf(D:List Dc)(rows:List (List Pt))(row:List Pt):Bool×Int:=if maB D (rows++[row]) row.length then aF D rows row else(false,1)
theorem mav{D:List Dc}{rows:List (List Pt)}{row:List Pt}(h:maB D (rows++[row]) row.length=true)(hl:row.length≤2097152):IU D 2097152 rows row:=by
 simp only[maB,Bool.and_eq_true,List.all_eq_true,beq_iff_eq] at h;obtain⟨h1,_,h3⟩:=h;exact⟨λr hr=>h1 r (by simp[hr]),hl,λx hx=>fik D 1 x (h3 row (by simp) x hx),λr hr x hx=>fik D 1 x (h3 r (by simp[hr]) x hx)⟩
theorem usk{l X Y:Dat}{g:Glob}(hl:Ha TT 22 l)(hF:Few (DD l) 2097152)(tX:Ha TT 86 X)(tY:Ha TT 24 Y)(hn:elO X≠[])(hnl:(elO X).length≤2^30)(hY:(elO Y).length≤2097152)(Qf:OGP)
 (hQ:∀g',Kp [] 0 g g'→Qf (ouB (uf (DD l) (ros X) (roA Y)).1 (uf (DD l) (ros X) (roA Y)).2) g'):EvF TT 42 [l,X,Y] g Qf:=by
 have eX:=tX.els uo;have eXl:=eX.1.1;have hYl:(roA Y).length=(elO Y).length:=List.length_map _;refine w42 hl tX tY ?_;obtain⟨xs,rfl,hx⟩:∃xs,xs=elO X∧(X=.sl 1 xs∨∃t,X=.gsl t 1 xs):=by
  rcases tX.sln uo with h|⟨m,xs,h,hm,_,_⟩
  ·rw[h] at hn;exact absurd rfl hn
  ·rw[szR] at hm;cases hm;rcases h with rfl|⟨k,rfl⟩
   ·exact⟨xs,rfl,.inl rfl⟩
   ·exact⟨xs,rfl,.inr ⟨k,rfl⟩⟩
 have fitR:∀n,n≤2^31→Sl TT 24 n:=λn h=>⟨by omega,λb' hb'=>by rw[byR] at hb';cases hb';omega⟩
 have t1:Ha TT 86 (.gsl g.toks.length 1 (elO X)):=.gsl _ _ _ _ _ uo szR eX.1 eX.2;have t2:Ha TT 86 (.gsl g.toks.length 1 (elO X++[Y])):=.gsl _ _ _ _ _ uo szR (fitR _ (by simp;omega)) λy hy=>by
  rcases List.mem_append.1 hy with hy|hy
  ·exact eX.2 y hy
  ·simp only[List.mem_singleton] at hy;subst hy;exact tY
 have habs:ros (.gsl g.toks.length 1 (elO X++[Y]))=ros X++[roA Y]:=by
  show(elO X++[Y]).map roA=_;rw[List.map_append];rfl
 refine roC hx hn (by omega) g _ ⟨_,t1,rfl,⟨by show(elO X).length+1≤2^40;omega,by show((elO X).length+1)*24≤2^46;omega⟩,.gsl g.toks.length 1 (elO X++[Y]),⟨g.boxes,(g.toks++[(1,(elO X).length)]++[(1,1)]).set g.toks.length (1,(elO X).length+1)⟩,?_,?_⟩
 ·have ht:((g.toks++[(1,(elO X).length)])++[(1,1)])[g.toks.length]?=some (1,(elO X).length):=by simp
  simp only[gpp,gto,List.isEmpty_cons,Bool.false_eq_true,if_false,ht,and_self,if_true];rfl
 have kA:Kp [] 0 g ⟨g.boxes,(g.toks++[(1,(elO X).length)]++[(1,1)]).set g.toks.length (1,(elO X).length+1)⟩:=kps rfl (by simp) rfl;refine myk hl t2 _ λg' k=>⟨_,rfl,?_⟩
 rw[habs];have kk:=kA.trans k;rw[←hYl];refine Bi.2 ⟨λq=>?_,λq=>?_⟩
 ·have hh:=hQ g' kk;have q:maB (DD l) (ros X++[roA Y]) (roA Y).length=false:=by simpa using q
  have ea:uf (DD l) (ros X) (roA Y)=(false,1):=by unfold uf;rw[q];rfl
  rw[ea] at hh;exact hh
 ·have q:maB (DD l) (ros X++[roA Y]) (roA Y).length=true:=by simpa using q
  refine ase hl hF tX tY (mav q (by omega)) _ λg'' k''=>⟨_,_,⟨rfl,rfl,trivial⟩,?_⟩
  have hh:=hQ g'' (kk.trans k'');have ea:uf (DD l) (ros X) (roA Y)=aF (DD l) (ros X) (roA Y):=by unfold uf;rw[q];rfl
  rw[ea] at hh;exact hh
theorem clm{x:Dat}{g:Glob}(tx:Ha TT 24 x)(Qf:OGP)(hQ:∀v X,Ha TT 86 X→Rt v X→ros X=(roA x).map (λp=>[p])→Qf (.val v) g):EvF TT 43 [x] g Qf:=by
 have ex:=tx.els uP;have exl:=ex.1.1;have fitR:∀n,n≤2^40→Sl TT 24 n:=λn h=>⟨by omega,λb' hb'=>by rw[byR] at hb';cases hb';omega⟩
 refine w43 tx ?_;refine lU (len:=(elO x).length) (λi=>∀l:List Dat,l.length=i→(∀y∈l,Ha TT 24 y)→l.map roA=((elO x).take i).map (λy=>[aP y])→L43_3 l x ((elO x).length:Int) (i:Int) g Qf) ?_ ?_ 0 (Nat.zero_le _) [] rfl (λy h=>by cases h) rfl
 ·intro l h1 h2 h3;refine w43_3 ?_;rw[Bg];rw[List.take_length] at h3;refine hQ _ (sOf 1 l) (slf uo szR (fitR _ (by omega)) h2) (rO _ _) ?_;unfold ros;rw[slO,h3];unfold roA;rw[List.map_map];rfl
 ·intro i hi ih l h1 h2 h3;refine w43_3 ?_;rw[Bl hi,geE hi,wra (by omega)];refine⟨inB hi,((fitR _ (by simp;omega)).fits byR),ih _ (by simp[h1]) (λy hy=>?_) ?_⟩
  ·rcases List.mem_append.1 hy with hy|hy
   ·exact h2 y hy
   ·simp only[List.mem_singleton] at hy;subst hy;exact tya (ftP (by simp)) (by simpa using ex.2 _ (List.getElem_mem hi))
  ·rw[List.map_append,h3,List.take_succ,List.getElem?_eq_getElem hi,List.map_append];rfl
def clO(ps:List Pt):List (List Pt):=ps.map λp=>[p]
def exh(D:List Dc)(ps:List Pt):Bool×Int:=(!(uf D (clO ps) [ayP]).1&&(uf D (clO ps) [ayP]).2==0,(uf D (clO ps) [ayP]).2)
theorem ehk{l x:Dat}{g:Glob}(hl:Ha TT 22 l)(hF:Few (DD l) 2097152)(tx:Ha TT 24 x)(hn:elO x≠[])(hnl:(elO x).length≤2^30)(Qf:OGP)
 (hQ:∀g',Kp [] 0 g g'→Qf (ouB (exh (DD l) (roA x)).1 (exh (DD l) (roA x)).2) g'):EvF TT 16 [l,x] g Qf:=by
 refine w16 hl tx (clm tx _ λv X tX hv hX=>⟨X,tX,hv,?_⟩);have t1:=tan (n:=1) (ftP (by omega));have hXl:(elO X).length=(elO x).length:=by
  have:=congrArg List.length hX
  simpa[ros,roA] using this
 refine wio (n:=1) (by omega) g _ ⟨_,t1,rfl,?_⟩;refine usk hl hF tX t1 (λh=>hn (List.eq_nil_of_length_eq_zero (by rw[←hXl,h];rfl))) (by omega) (by simp[elO]) _ λg' k=>⟨_,_,⟨rfl,rfl,trivial⟩,?_⟩
 have hh:=hQ g' k;have e1:roA (.sl 5 (List.replicate 1 anP))=[ayP]:=rob 1;rw[hX,e1];unfold exh clO at hh;refine Bi.2 ⟨λq=>?_,λq=>?_⟩
 ·rw[q,Bool.true_and] at hh;exact hh
 ·rw[q,Bool.false_and] at hh;exact hh
end Go.Proofs.YtiheejdkkjfenaaGreatDoor.Pa
