/- What functions of the program do, printed by wip/tools/sx/sx.py. How many expressions and patterns there are: the program's and the document's answers. What is not too large: not many nodes, not deep. A program that is not too large: its types are not. What functions of the program do, printed by wip/tools/sx/sx.py. How deep: the program's numbers, the document's tests. -/
import Derived.Test.YtgmapdcdmomioaaGreatDoorRD
set_option linter.all false
set_option autoImplicit false
set_option maxRecDepth 100000
namespace Go.Proofs.YtgmapdcdmomioaaGreatDoor.Pa
open Go Go.Proofs.YtgmapdcdmomioaaGreatDoor.Am
def L143_3(n1:Int)(n5:Int)(y2:Dat)(g:Glob)(Qf:OGP):Prop:=CutP TT Tryz.f143 [1,1,0,1,0] Qf (mkC TT 143 Tryz.f143 2 [(1,.v 3 (.int .i64 n1)),(2,.loc 2 0 0),(5,.v 3 (.int .i64 n5))] [(2,.whole 127 y2)] g)
def lo143:List CutI:=[⟨3,[(1,.keep),(2,.keep),(5,.keep)],[(2,.whole 127)]⟩]
theorem w143{x0:Dat}{n1:Int}{g:Glob}{Qf:OGP}(h0:HasTy TT 127 x0)
 (h:L143_3 (IntKind.i64.wrap (n1-1)) 0 x0 g Qf):
 EvF TT 143 [x0,.int .i64 n1] g Qf:=
 sx_fun (rk:=rk) (fn:=Tryz.f143) (loops:=lo143) (joins:=[]) (n:=100000) (args:=[(127,x0),(3,.int .i64 n1)]) rfl rfl rfl rfl ⟨h0,tyInt rfl,trivial⟩ (by kernel_rfl) h
theorem w143_3{n1:Int}{n5:Int}{y2:Dat}{g:Glob}{Qf:OGP}
 (h:Br (decide (n5<(↑(elsOf (fld y2 3)).length:Int))) (Br (decide (0≤n1)) (InB n5 (elsOf (fld y2 3)).length∧EvF TT 143 [getE (elsOf (fld y2 3)) n5,.int .i64 n1] g (KQ Qf λv g'=>∃n,v=.d (.int .i64 n)∧L143_3 n (IntKind.i64.wrap (n5+1)) y2 g' Qf)) (Qf (.val (.d (.int .i64 n1))) g)) (Qf (.val (.d (.int .i64 n1))) g)):
 L143_3 n1 n5 y2 g Qf:=sx_cut (rk:=rk) (loops:=lo143) (joins:=[]) (n:=100000) (by kernel_rfl) h
def L144_3(n1:Int)(n5:Int)(y2:Dat)(g:Glob)(Qf:OGP):Prop:=CutP TT Tryz.f144 [1,1,0,1,0] Qf (mkC TT 144 Tryz.f144 2 [(1,.v 3 (.int .i64 n1)),(2,.loc 2 0 0),(5,.v 3 (.int .i64 n5))] [(2,.whole 127 y2)] g)
def lo144:List CutI:=[⟨3,[(1,.keep),(2,.keep),(5,.keep)],[(2,.whole 127)]⟩]
theorem w144{x0:Dat}{n1:Int}{g:Glob}{Qf:OGP}(h0:HasTy TT 127 x0)
 (h:L144_3 (IntKind.i64.wrap (n1+1)) 0 x0 g Qf):
 EvF TT 144 [x0,.int .i64 n1] g Qf:=
 sx_fun (rk:=rk) (fn:=Tryz.f144) (loops:=lo144) (joins:=[]) (n:=100000) (args:=[(127,x0),(3,.int .i64 n1)]) rfl rfl rfl rfl ⟨h0,tyInt rfl,trivial⟩ (by kernel_rfl) h
theorem w144_3{n1:Int}{n5:Int}{y2:Dat}{g:Glob}{Qf:OGP}
 (h:Br (decide (n5<(↑(elsOf (fld y2 3)).length:Int))) (Br (decide (n1≤2048)) (InB n5 (elsOf (fld y2 3)).length∧EvF TT 144 [getE (elsOf (fld y2 3)) n5,.int .i64 n1] g (KQ Qf λv g'=>∃n,v=.d (.int .i64 n)∧L144_3 n (IntKind.i64.wrap (n5+1)) y2 g' Qf)) (Qf (.val (.d (.int .i64 n1))) g)) (Qf (.val (.d (.int .i64 n1))) g)):
 L144_3 n1 n5 y2 g Qf:=sx_cut (rk:=rk) (loops:=lo144) (joins:=[]) (n:=100000) (by kernel_rfl) h
def L77_3(n1:Int)(n5:Int)(y2:Dat)(g:Glob)(Qf:OGP):Prop:=CutP TT Tryz.f77 [1,1,0,1,0] Qf (mkC TT 77 Tryz.f77 2 [(1,.v 3 (.int .i64 n1)),(2,.loc 2 0 0),(5,.v 3 (.int .i64 n5))] [(2,.whole 27 y2)] g)
def L77_7(n1:Int)(n6:Int)(y2:Dat)(g:Glob)(Qf:OGP):Prop:=CutP TT Tryz.f77 [1,1,1,0,1,0] Qf (mkC TT 77 Tryz.f77 2 [(1,.v 3 (.int .i64 n1)),(2,.loc 2 0 0),(6,.v 3 (.int .i64 n6))] [(2,.whole 27 y2)] g)
def lo77:List CutI:=[⟨3,[(1,.keep),(2,.keep),(5,.keep)],[(2,.whole 27)]⟩,⟨7,[(1,.keep),(2,.keep),(6,.keep)],[(2,.whole 27)]⟩]
theorem w77{x0:Dat}{n1:Int}{g:Glob}{Qf:OGP}(h0:HasTy TT 27 x0)
 (h:L77_3 (IntKind.i64.wrap (n1-1)) 0 x0 g Qf):
 EvF TT 77 [x0,.int .i64 n1] g Qf:=
 sx_fun (rk:=rk) (fn:=Tryz.f77) (loops:=lo77) (joins:=[]) (n:=100000) (args:=[(27,x0),(3,.int .i64 n1)]) rfl rfl rfl rfl ⟨h0,tyInt rfl,trivial⟩ (by kernel_rfl) h
theorem w77_3{n1:Int}{n5:Int}{y2:Dat}{g:Glob}{Qf:OGP}
 (h:Br (decide (n5<(↑(elsOf (fld y2 5)).length:Int))) (Br (decide (0≤n1)) (InB n5 (elsOf (fld y2 5)).length∧EvF TT 143 [getE (elsOf (fld y2 5)) n5,.int .i64 n1] g (KQ Qf λv g'=>∃n,v=.d (.int .i64 n)∧L77_3 n (IntKind.i64.wrap (n5+1)) y2 g' Qf)) (L77_7 n1 0 y2 g Qf)) (L77_7 n1 0 y2 g Qf)):
 L77_3 n1 n5 y2 g Qf:=sx_cut (rk:=rk) (loops:=lo77) (joins:=[]) (n:=100000) (by kernel_rfl) h
theorem w77_7{n1:Int}{n6:Int}{y2:Dat}{g:Glob}{Qf:OGP}
 (h:Br (decide (n6<(↑(elsOf (fld y2 4)).length:Int))) (Br (decide (0≤n1)) (InB n6 (elsOf (fld y2 4)).length∧EvF TT 77 [getE (elsOf (fld y2 4)) n6,.int .i64 n1] g (KQ Qf λv g'=>∃n,v=.d (.int .i64 n)∧L77_7 n (IntKind.i64.wrap (n6+1)) y2 g' Qf)) (Qf (.val (.d (.int .i64 n1))) g)) (Qf (.val (.d (.int .i64 n1))) g)):
 L77_7 n1 n6 y2 g Qf:=sx_cut (rk:=rk) (loops:=lo77) (joins:=[]) (n:=100000) (by kernel_rfl) h
def L78_3(n1:Int)(n5:Int)(y2:Dat)(g:Glob)(Qf:OGP):Prop:=CutP TT Tryz.f78 [1,1,0,1,0] Qf (mkC TT 78 Tryz.f78 2 [(1,.v 3 (.int .i64 n1)),(2,.loc 2 0 0),(5,.v 3 (.int .i64 n5))] [(2,.whole 27 y2)] g)
def L78_7(n1:Int)(n6:Int)(y2:Dat)(g:Glob)(Qf:OGP):Prop:=CutP TT Tryz.f78 [1,1,1,0,1,0] Qf (mkC TT 78 Tryz.f78 2 [(1,.v 3 (.int .i64 n1)),(2,.loc 2 0 0),(6,.v 3 (.int .i64 n6))] [(2,.whole 27 y2)] g)
def lo78:List CutI:=[⟨3,[(1,.keep),(2,.keep),(5,.keep)],[(2,.whole 27)]⟩,⟨7,[(1,.keep),(2,.keep),(6,.keep)],[(2,.whole 27)]⟩]
theorem w78{x0:Dat}{n1:Int}{g:Glob}{Qf:OGP}(h0:HasTy TT 27 x0)
 (h:L78_3 (IntKind.i64.wrap (n1+1)) 0 x0 g Qf):
 EvF TT 78 [x0,.int .i64 n1] g Qf:=
 sx_fun (rk:=rk) (fn:=Tryz.f78) (loops:=lo78) (joins:=[]) (n:=100000) (args:=[(27,x0),(3,.int .i64 n1)]) rfl rfl rfl rfl ⟨h0,tyInt rfl,trivial⟩ (by kernel_rfl) h
theorem w78_3{n1:Int}{n5:Int}{y2:Dat}{g:Glob}{Qf:OGP}
 (h:Br (decide (n5<(↑(elsOf (fld y2 5)).length:Int))) (Br (decide (n1≤2048)) (InB n5 (elsOf (fld y2 5)).length∧EvF TT 144 [getE (elsOf (fld y2 5)) n5,.int .i64 n1] g (KQ Qf λv g'=>∃n,v=.d (.int .i64 n)∧L78_3 n (IntKind.i64.wrap (n5+1)) y2 g' Qf)) (L78_7 n1 0 y2 g Qf)) (L78_7 n1 0 y2 g Qf)):
 L78_3 n1 n5 y2 g Qf:=sx_cut (rk:=rk) (loops:=lo78) (joins:=[]) (n:=100000) (by kernel_rfl) h
theorem w78_7{n1:Int}{n6:Int}{y2:Dat}{g:Glob}{Qf:OGP}
 (h:Br (decide (n6<(↑(elsOf (fld y2 4)).length:Int))) (Br (decide (n1≤2048)) (InB n6 (elsOf (fld y2 4)).length∧EvF TT 78 [getE (elsOf (fld y2 4)) n6,.int .i64 n1] g (KQ Qf λv g'=>∃n,v=.d (.int .i64 n)∧L78_7 n (IntKind.i64.wrap (n6+1)) y2 g' Qf)) (Qf (.val (.d (.int .i64 n1))) g)) (Qf (.val (.d (.int .i64 n1))) g)):
 L78_7 n1 n6 y2 g Qf:=sx_cut (rk:=rk) (loops:=lo78) (joins:=[]) (n:=100000) (by kernel_rfl) h
def lo26:List CutI:=[]
theorem w26{x0:Dat}{g:Glob}{Qf:OGP}(h0:HasTy TT 29 x0)
 (h:EvF TT 77 [sub x0 1 7,.int .i64 2048] g (KQ Qf λv g'=>∃n,v=.d (.int .i64 n)∧Qf (.val (.d (.int .i64 (IntKind.i64.wrap (2048-maxS true (-1) n))))) g')):
 EvF TT 26 [x0] g Qf:=
 sx_fun (rk:=rk) (fn:=Tryz.f26) (loops:=lo26) (joins:=[]) (n:=100000) (args:=[(29,x0)]) rfl rfl rfl rfl ⟨h0,trivial⟩ (by kernel_rfl) h
def lo27:List CutI:=[]
theorem w27{x0:Dat}{g:Glob}{Qf:OGP}(h0:HasTy TT 29 x0)
 (h:EvF TT 78 [sub x0 1 7,.int .i64 0] g (KQ Qf λv g'=>∃n,v=.d (.int .i64 n)∧Qf (.val (.d (.int .i64 (maxS false n 2049)))) g')):
 EvF TT 27 [x0] g Qf:=
 sx_fun (rk:=rk) (fn:=Tryz.f27) (loops:=lo27) (joins:=[]) (n:=100000) (args:=[(29,x0)]) rfl rfl rfl rfl ⟨h0,trivial⟩ (by kernel_rfl) h
end Go.Proofs.YtgmapdcdmomioaaGreatDoor.Pa
namespace Go.Proofs.YtgmapdcdmomioaaGreatDoor.Pa
open Go Go.Proofs.YtgmapdcdmomioaaGreatDoor.Am
mutual
def szPt:Pt→Nat
 |.mk _ _ _ a _=>1+szPts a
def szPts:List Pt→Nat
 |[]=>0
 |x::xs=>szPt x+szPts xs
end
mutual
def szEx:Ex'→Nat
 |.mk _ _ _ _ a b _=>1+szPts b+szExs a
def szExs:List Ex'→Nat
 |[]=>0
 |x::xs=>szEx x+szExs xs
end
theorem szPts_drop{xs:List Dat}{i:Nat}(hi:i<xs.length):szPts ((xs.drop i).map absPt)=szPt (absPt xs[i])+szPts ((xs.drop (i+1)).map absPt):=by
 rw[List.drop_eq_getElem_cons hi];rfl
theorem szExs_drop{xs:List Dat}{i:Nat}(hi:i<xs.length):szExs ((xs.drop i).map absEx)=szEx (absEx xs[i])+szExs ((xs.drop (i+1)).map absEx):=by
 rw[List.drop_eq_getElem_cons hi];rfl
def lft(n:Int)(s:Nat):Int:=if (s:Int)≤n then n-s else -1
theorem lft_add(n:Int)(a b:Nat):lft n (a+b)=lft (lft n a) b:=by
 unfold lft
 repeat' split
 all_goals omega
theorem lft_lt{n:Int}(s:Nat)(h:n<0)(h1:-1≤n):lft n s=n:=by
 unfold lft
 split<;>omega
theorem lft_rng{n:Int}(s:Nat)(h:n≤2048):-1≤lft n s∧lft n s≤2048:=by
 unfold lft
 split<;>omega
theorem patSized_ok:∀(k:Nat) (x:Dat) (g:Glob) (n1:Int),SizeOf.sizeOf x<k→HasTy TT 127 x→0≤n1→n1≤2048→∀(Qf:OGP),Qf (.val (.d (.int .i64 (lft n1 (szPt (absPt x)))))) g→EvF TT 143 [x,.int .i64 n1] g Qf
 |0,x,g,n1,hk,_,_,_=>by omega
 |k+1,x,g,n1,hk,hx,h0,h1=>by
  intro Qf hQ
  refine w143 hx ?_
  obtain⟨k1,s1,v1,a1,p1,rfl,hs1,t1⟩:=pat_ty hx
  have ex:=t1.els undPats
  have exl:=ex.1.1
  have hc:=sizeOf_cell (cs:=[.int .i64 k1,.str s1,.int .i64 v1,a1,.int .i64 p1]) (c:=a1) (by simp)
  rw[wrap_id (by omega) (by omega)]
  have hz:lft n1 (szPt (absPt (.agg [.int .i64 k1,.str s1,.int .i64 v1,a1,.int .i64 p1])))=lft (n1-1) (szPts (((elsOf a1).drop 0).map absPt)):=by
   simp only[absPt,szPt,absPtA_map,List.drop_zero]
   rw[lft_add]
   congr 1
   unfold lft
   split<;>omega
  rw[hz] at hQ
  refine loopUp (len:=(elsOf a1).length) (λi=>∀n:Int,-1≤n→n≤2048→Qf (.val (.d (.int .i64 (lft n (szPts (((elsOf a1).drop i).map absPt)))))) g→L143_3 n (i:Int) (.agg [.int .i64 k1,.str s1,.int .i64 v1,a1,.int .i64 p1]) g Qf) ?_ ?_ 0 (Nat.zero_le _) (n1-1) (by omega) (by omega) hQ
  ·intro n h0 h1 hQ
   refine w143_3 ?_
   rw[show(fld (Dat.agg [.int .i64 k1,.str s1,.int .i64 v1,a1,.int .i64 p1]) 3)=a1 from rfl,Br_ge]
   rw[List.drop_length,show lft n (szPts (([]:List Dat).map absPt))=n from by simp only[List.map_nil,szPts,lft];split<;>omega] at hQ
   exact hQ
  ·intro i hi ih n h0 h1 hQ
   refine w143_3 ?_
   rw[show(fld (Dat.agg [.int .i64 k1,.str s1,.int .i64 v1,a1,.int .i64 p1]) 3)=a1 from rfl,Br_lt hi,getE_nat hi]
   refine Br_iff.2 ⟨λq=>⟨inB hi,?_⟩,λq=>?_⟩
   ·have hsz:=sizeOf_el hi
    refine patSized_ok k _ g _ (by omega) (ex.2 _ (List.getElem_mem hi)) (of_decide_eq_true q) h1 _ ⟨_,rfl,?_⟩
    rw[wrap_nat (by omega)]
    refine ih _ (lft_rng _ h1).1 (lft_rng _ h1).2 ?_
    rw[←lft_add,←szPts_drop hi]
    exact hQ
   ·rw[lft_lt _ (by have:=of_decide_eq_false q;omega) h0] at hQ
    exact hQ
theorem sized_ok:∀(k:Nat) (x:Dat) (g:Glob) (n1:Int),SizeOf.sizeOf x<k→HasTy TT 27 x→0≤n1→n1≤2048→∀(Qf:OGP),Qf (.val (.d (.int .i64 (lft n1 (szEx (absEx x)))))) g→EvF TT 77 [x,.int .i64 n1] g Qf
 |0,x,g,n1,hk,_,_,_=>by omega
 |k+1,x,g,n1,hk,hx,h0,h1=>by
  intro Qf hQ
  refine w77 hx ?_
  obtain⟨k1,s1,r1,v1,a1,b1,p1,rfl,hs1,hr1,t1,u1⟩:=expr_ty hx
  have ex:=t1.els undExprs
  have exl:=ex.1.1
  have eu:=u1.els undPats
  have eul:=eu.1.1
  have hc:=sizeOf_cell (cs:=[.int .i64 k1,.str s1,.str r1,.int .i64 v1,a1,b1,.int .i64 p1]) (c:=a1) (by simp)
  rw[wrap_id (by omega) (by omega)]
  have hz:lft n1 (szEx (absEx (.agg [.int .i64 k1,.str s1,.str r1,.int .i64 v1,a1,b1,.int .i64 p1])))=lft (lft (n1-1) (szPts (((elsOf b1).drop 0).map absPt))) (szExs (((elsOf a1).drop 0).map absEx)):=by
   simp only[absEx,szEx,absPtA_map,absExA_map,List.drop_zero]
   rw[lft_add,lft_add]
   congr 2
   unfold lft
   split<;>omega
  rw[hz] at hQ
  have args:∀n:Int,-1≤n→n≤2048→Qf (.val (.d (.int .i64 (lft n (szExs (((elsOf a1).drop 0).map absEx)))))) g→L77_7 n 0 (.agg [.int .i64 k1,.str s1,.str r1,.int .i64 v1,a1,b1,.int .i64 p1]) g Qf:=by
   refine loopUp (len:=(elsOf a1).length) (λi=>∀n:Int,-1≤n→n≤2048→Qf (.val (.d (.int .i64 (lft n (szExs (((elsOf a1).drop i).map absEx)))))) g→L77_7 n (i:Int) (.agg [.int .i64 k1,.str s1,.str r1,.int .i64 v1,a1,b1,.int .i64 p1]) g Qf) ?_ ?_ 0 (Nat.zero_le _)
   ·intro n h0 h1 hQ
    refine w77_7 ?_
    rw[show(fld (Dat.agg [.int .i64 k1,.str s1,.str r1,.int .i64 v1,a1,b1,.int .i64 p1]) 4)=a1 from rfl,Br_ge]
    rw[List.drop_length,show lft n (szExs (([]:List Dat).map absEx))=n from by simp only[List.map_nil,szExs,lft];split<;>omega] at hQ
    exact hQ
   ·intro i hi ih n h0 h1 hQ
    refine w77_7 ?_
    rw[show(fld (Dat.agg [.int .i64 k1,.str s1,.str r1,.int .i64 v1,a1,b1,.int .i64 p1]) 4)=a1 from rfl,Br_lt hi,getE_nat hi]
    refine Br_iff.2 ⟨λq=>⟨inB hi,?_⟩,λq=>?_⟩
    ·have hsz:=sizeOf_el hi
     refine sized_ok k _ g _ (by omega) (ex.2 _ (List.getElem_mem hi)) (of_decide_eq_true q) h1 _ ⟨_,rfl,?_⟩
     rw[wrap_nat (by omega)]
     refine ih _ (lft_rng _ h1).1 (lft_rng _ h1).2 ?_
     rw[←lft_add,←szExs_drop hi]
     exact hQ
    ·rw[lft_lt _ (by have:=of_decide_eq_false q;omega) h0] at hQ
     exact hQ
  refine loopUp (len:=(elsOf b1).length) (λi=>∀n:Int,-1≤n→n≤2048→Qf (.val (.d (.int .i64 (lft (lft n (szPts (((elsOf b1).drop i).map absPt))) (szExs (((elsOf a1).drop 0).map absEx)))))) g→L77_3 n (i:Int) (.agg [.int .i64 k1,.str s1,.str r1,.int .i64 v1,a1,b1,.int .i64 p1]) g Qf) ?_ ?_ 0 (Nat.zero_le _) (n1-1) (by omega) (by omega) hQ
  ·intro n h0 h1 hQ
   refine w77_3 ?_
   rw[show(fld (Dat.agg [.int .i64 k1,.str s1,.str r1,.int .i64 v1,a1,b1,.int .i64 p1]) 5)=b1 from rfl,Br_ge]
   rw[List.drop_length,show lft n (szPts (([]:List Dat).map absPt))=n from by simp only[List.map_nil,szPts,lft];split<;>omega] at hQ
   exact args n h0 h1 hQ
  ·intro i hi ih n h0 h1 hQ
   refine w77_3 ?_
   rw[show(fld (Dat.agg [.int .i64 k1,.str s1,.str r1,.int .i64 v1,a1,b1,.int .i64 p1]) 5)=b1 from rfl,Br_lt hi,getE_nat hi]
   refine Br_iff.2 ⟨λq=>⟨inB hi,?_⟩,λq=>?_⟩
   ·refine patSized_ok _ _ g _ (Nat.lt_succ_self _) (eu.2 _ (List.getElem_mem hi)) (of_decide_eq_true q) h1 _ ⟨_,rfl,?_⟩
    rw[wrap_nat (by omega)]
    refine ih _ (lft_rng _ h1).1 (lft_rng _ h1).2 ?_
    rw[←lft_add n,←szPts_drop hi]
    exact hQ
   ·rw[lft_lt (szPts (((elsOf b1).drop i).map absPt)) (by have:=of_decide_eq_false q;omega) h0] at hQ
    exact args n h0 h1 hQ
def upto(n:Int)(s:Nat):Int:=if n+s≤2048 then n+s else 2049
theorem upto_add(n:Int)(a b:Nat):upto n (a+b)=upto (upto n a) b:=by
 unfold upto
 repeat' split
 all_goals omega
theorem upto_gt{n:Int}(s:Nat)(h:2048<n)(h1:n≤2049):upto n s=n:=by
 unfold upto
 split<;>omega
theorem upto_rng{n:Int}(s:Nat)(h:0≤n):0≤upto n s∧upto n s≤2049:=by
 unfold upto
 split<;>omega
theorem sizePat_ok:∀(k:Nat) (x:Dat) (g:Glob) (n1:Int),SizeOf.sizeOf x<k→HasTy TT 127 x→0≤n1→n1≤2048→∀(Qf:OGP),Qf (.val (.d (.int .i64 (upto n1 (szPt (absPt x)))))) g→EvF TT 144 [x,.int .i64 n1] g Qf
 |0,x,g,n1,hk,_,_,_=>by omega
 |k+1,x,g,n1,hk,hx,h0,h1=>by
  intro Qf hQ
  refine w144 hx ?_
  obtain⟨k1,s1,v1,a1,p1,rfl,hs1,t1⟩:=pat_ty hx
  have ex:=t1.els undPats
  have exl:=ex.1.1
  have hc:=sizeOf_cell (cs:=[.int .i64 k1,.str s1,.int .i64 v1,a1,.int .i64 p1]) (c:=a1) (by simp)
  rw[wrap_id (by omega) (by omega)]
  have hz:upto n1 (szPt (absPt (.agg [.int .i64 k1,.str s1,.int .i64 v1,a1,.int .i64 p1])))=upto (n1+1) (szPts (((elsOf a1).drop 0).map absPt)):=by
   simp only[absPt,szPt,absPtA_map,List.drop_zero]
   rw[upto_add]
   congr 1
   unfold upto
   split<;>omega
  rw[hz] at hQ
  refine loopUp (len:=(elsOf a1).length) (λi=>∀n:Int,0≤n→n≤2049→Qf (.val (.d (.int .i64 (upto n (szPts (((elsOf a1).drop i).map absPt)))))) g→L144_3 n (i:Int) (.agg [.int .i64 k1,.str s1,.int .i64 v1,a1,.int .i64 p1]) g Qf) ?_ ?_ 0 (Nat.zero_le _) (n1+1) (by omega) (by omega) hQ
  ·intro n h0 h1 hQ
   refine w144_3 ?_
   rw[show(fld (Dat.agg [.int .i64 k1,.str s1,.int .i64 v1,a1,.int .i64 p1]) 3)=a1 from rfl,Br_ge]
   rw[List.drop_length,show upto n (szPts (([]:List Dat).map absPt))=n from by simp only[List.map_nil,szPts,upto];split<;>omega] at hQ
   exact hQ
  ·intro i hi ih n h0 h1 hQ
   refine w144_3 ?_
   rw[show(fld (Dat.agg [.int .i64 k1,.str s1,.int .i64 v1,a1,.int .i64 p1]) 3)=a1 from rfl,Br_lt hi,getE_nat hi]
   refine Br_iff.2 ⟨λq=>⟨inB hi,?_⟩,λq=>?_⟩
   ·have hsz:=sizeOf_el hi
    refine sizePat_ok k _ g _ (by omega) (ex.2 _ (List.getElem_mem hi)) h0 (of_decide_eq_true q) _ ⟨_,rfl,?_⟩
    rw[wrap_nat (by omega)]
    refine ih _ (upto_rng _ h0).1 (upto_rng _ h0).2 ?_
    rw[←upto_add,←szPts_drop hi]
    exact hQ
   ·rw[upto_gt _ (by have:=of_decide_eq_false q;omega) h1] at hQ
    exact hQ
theorem sizeExpr_ok:∀(k:Nat) (x:Dat) (g:Glob) (n1:Int),SizeOf.sizeOf x<k→HasTy TT 27 x→0≤n1→n1≤2048→∀(Qf:OGP),Qf (.val (.d (.int .i64 (upto n1 (szEx (absEx x)))))) g→EvF TT 78 [x,.int .i64 n1] g Qf
 |0,x,g,n1,hk,_,_,_=>by omega
 |k+1,x,g,n1,hk,hx,h0,h1=>by
  intro Qf hQ
  refine w78 hx ?_
  obtain⟨k1,s1,r1,v1,a1,b1,p1,rfl,hs1,hr1,t1,u1⟩:=expr_ty hx
  have ex:=t1.els undExprs
  have exl:=ex.1.1
  have eu:=u1.els undPats
  have eul:=eu.1.1
  have hc:=sizeOf_cell (cs:=[.int .i64 k1,.str s1,.str r1,.int .i64 v1,a1,b1,.int .i64 p1]) (c:=a1) (by simp)
  rw[wrap_id (by omega) (by omega)]
  have hz:upto n1 (szEx (absEx (.agg [.int .i64 k1,.str s1,.str r1,.int .i64 v1,a1,b1,.int .i64 p1])))=upto (upto (n1+1) (szPts (((elsOf b1).drop 0).map absPt))) (szExs (((elsOf a1).drop 0).map absEx)):=by
   simp only[absEx,szEx,absPtA_map,absExA_map,List.drop_zero]
   rw[upto_add,upto_add]
   congr 2
   unfold upto
   split<;>omega
  rw[hz] at hQ
  have args:∀n:Int,0≤n→n≤2049→Qf (.val (.d (.int .i64 (upto n (szExs (((elsOf a1).drop 0).map absEx)))))) g→L78_7 n 0 (.agg [.int .i64 k1,.str s1,.str r1,.int .i64 v1,a1,b1,.int .i64 p1]) g Qf:=by
   refine loopUp (len:=(elsOf a1).length) (λi=>∀n:Int,0≤n→n≤2049→Qf (.val (.d (.int .i64 (upto n (szExs (((elsOf a1).drop i).map absEx)))))) g→L78_7 n (i:Int) (.agg [.int .i64 k1,.str s1,.str r1,.int .i64 v1,a1,b1,.int .i64 p1]) g Qf) ?_ ?_ 0 (Nat.zero_le _)
   ·intro n h0 h1 hQ
    refine w78_7 ?_
    rw[show(fld (Dat.agg [.int .i64 k1,.str s1,.str r1,.int .i64 v1,a1,b1,.int .i64 p1]) 4)=a1 from rfl,Br_ge]
    rw[List.drop_length,show upto n (szExs (([]:List Dat).map absEx))=n from by simp only[List.map_nil,szExs,upto];split<;>omega] at hQ
    exact hQ
   ·intro i hi ih n h0 h1 hQ
    refine w78_7 ?_
    rw[show(fld (Dat.agg [.int .i64 k1,.str s1,.str r1,.int .i64 v1,a1,b1,.int .i64 p1]) 4)=a1 from rfl,Br_lt hi,getE_nat hi]
    refine Br_iff.2 ⟨λq=>⟨inB hi,?_⟩,λq=>?_⟩
    ·have hsz:=sizeOf_el hi
     refine sizeExpr_ok k _ g _ (by omega) (ex.2 _ (List.getElem_mem hi)) h0 (of_decide_eq_true q) _ ⟨_,rfl,?_⟩
     rw[wrap_nat (by omega)]
     refine ih _ (upto_rng _ h0).1 (upto_rng _ h0).2 ?_
     rw[←upto_add,←szExs_drop hi]
     exact hQ
    ·rw[upto_gt _ (by have:=of_decide_eq_false q;omega) h1] at hQ
     exact hQ
  refine loopUp (len:=(elsOf b1).length) (λi=>∀n:Int,0≤n→n≤2049→Qf (.val (.d (.int .i64 (upto (upto n (szPts (((elsOf b1).drop i).map absPt))) (szExs (((elsOf a1).drop 0).map absEx)))))) g→L78_3 n (i:Int) (.agg [.int .i64 k1,.str s1,.str r1,.int .i64 v1,a1,b1,.int .i64 p1]) g Qf) ?_ ?_ 0 (Nat.zero_le _) (n1+1) (by omega) (by omega) hQ
  ·intro n h0 h1 hQ
   refine w78_3 ?_
   rw[show(fld (Dat.agg [.int .i64 k1,.str s1,.str r1,.int .i64 v1,a1,b1,.int .i64 p1]) 5)=b1 from rfl,Br_ge]
   rw[List.drop_length,show upto n (szPts (([]:List Dat).map absPt))=n from by simp only[List.map_nil,szPts,upto];split<;>omega] at hQ
   exact args n h0 h1 hQ
  ·intro i hi ih n h0 h1 hQ
   refine w78_3 ?_
   rw[show(fld (Dat.agg [.int .i64 k1,.str s1,.str r1,.int .i64 v1,a1,b1,.int .i64 p1]) 5)=b1 from rfl,Br_lt hi,getE_nat hi]
   refine Br_iff.2 ⟨λq=>⟨inB hi,?_⟩,λq=>?_⟩
   ·refine sizePat_ok _ _ g _ (Nat.lt_succ_self _) (eu.2 _ (List.getElem_mem hi)) h0 (of_decide_eq_true q) _ ⟨_,rfl,?_⟩
    rw[wrap_nat (by omega)]
    refine ih _ (upto_rng _ h0).1 (upto_rng _ h0).2 ?_
    rw[←upto_add n,←szPts_drop hi]
    exact hQ
   ·rw[upto_gt (szPts (((elsOf b1).drop i).map absPt)) (by have:=of_decide_eq_false q;omega) h1] at hQ
    exact args n h0 h1 hQ
theorem parseSize_ok(x:Dat)(g:Glob)(hx:HasTy TT 29 x)(Qf:OGP)(hQ:Qf (.val (.d (.int .i64 (upto 0 (szEx (absPg x).e))))) g):EvF TT 26 [x] g Qf:=by
 refine w26 hx ?_
 obtain⟨d1,k1,s1,r1,n1,a1,b1,p1,rfl,hd1,he1⟩:=prog_ty hx
 refine sized_ok _ _ g _ (Nat.lt_succ_self _) he1 (by omega) (by omega) _ ⟨_,rfl,?_⟩
 have e:IntKind.i64.wrap (2048-maxS true (-1) (lft 2048 (szEx (absEx (.agg [.int .i64 k1,.str s1,.str r1,.int .i64 n1,a1,b1,.int .i64 p1])))))=upto 0 (szEx (absEx (.agg [.int .i64 k1,.str s1,.str r1,.int .i64 n1,a1,b1,.int .i64 p1]))):=by
  have h:=lft_rng (n:=2048) (szEx (absEx (.agg [.int .i64 k1,.str s1,.str r1,.int .i64 n1,a1,b1,.int .i64 p1]))) (by omega)
  have h2:maxS true (-1) (lft 2048 (szEx (absEx (.agg [.int .i64 k1,.str s1,.str r1,.int .i64 n1,a1,b1,.int .i64 p1]))))=lft 2048 (szEx (absEx (.agg [.int .i64 k1,.str s1,.str r1,.int .i64 n1,a1,b1,.int .i64 p1]))):=by
   simp only[maxS,if_true]
   split<;>omega
  rw[h2,wrap_id (by omega) (by omega)]
  unfold lft upto
  repeat' split
  all_goals omega
 show Qf (.val (.d (.int .i64 (IntKind.i64.wrap (2048-maxS true (-1) (lft 2048 (szEx (absEx (.agg [.int .i64 k1,.str s1,.str r1,.int .i64 n1,a1,b1,.int .i64 p1]))))))))) g
 rw[e]
 exact hQ
theorem refSize_ok(x:Dat)(g:Glob)(hx:HasTy TT 29 x)(Qf:OGP)(hQ:Qf (.val (.d (.int .i64 (upto 0 (szEx (absPg x).e))))) g):EvF TT 27 [x] g Qf:=by
 refine w27 hx ?_
 obtain⟨d1,k1,s1,r1,n1,a1,b1,p1,rfl,hd1,he1⟩:=prog_ty hx
 refine sizeExpr_ok _ _ g _ (Nat.lt_succ_self _) he1 (by omega) (by omega) _ ⟨_,rfl,?_⟩
 have e:maxS false (upto 0 (szEx (absEx (.agg [.int .i64 k1,.str s1,.str r1,.int .i64 n1,a1,b1,.int .i64 p1])))) 2049=upto 0 (szEx (absEx (.agg [.int .i64 k1,.str s1,.str r1,.int .i64 n1,a1,b1,.int .i64 p1]))):=by
  have h:=upto_rng (n:=0) (szEx (absEx (.agg [.int .i64 k1,.str s1,.str r1,.int .i64 n1,a1,b1,.int .i64 p1]))) (by omega)
  simp only[maxS]
  split
  ·rename_i h;cases h
  ·split<;>omega
 show Qf (.val (.d (.int .i64 (maxS false (upto 0 (szEx (absEx (.agg [.int .i64 k1,.str s1,.str r1,.int .i64 n1,a1,b1,.int .i64 p1])))) 2049)))) g
 rw[e]
 exact hQ
end Go.Proofs.YtgmapdcdmomioaaGreatDoor.Pa
namespace Go.Proofs.YtgmapdcdmomioaaGreatDoor.Pa
open Go Go.Proofs.YtgmapdcdmomioaaGreatDoor.Am
mutual
def ndTy:Ty→Nat
 |.mk _ _ _ a=>1+ndTys a
def ndTys:List Ty→Nat
 |[]=>0
 |x::xs=>ndTy x+ndTys xs
end
mutual
def dpTy:Ty→Nat
 |.mk _ _ _ a=>1+dpTys a
def dpTys:List Ty→Nat
 |[]=>0
 |x::xs=>max (dpTy x) (dpTys xs)
end
mutual
def dpPt:Pt→Nat
 |.mk _ _ _ a _=>1+dpPts a
def dpPts:List Pt→Nat
 |[]=>0
 |x::xs=>max (dpPt x) (dpPts xs)
end
mutual
def dpEx:Ex'→Nat
 |.mk _ _ _ _ a b _=>1+max (dpPts b) (dpExs a)
def dpExs:List Ex'→Nat
 |[]=>0
 |x::xs=>max (dpEx x) (dpExs xs)
end
theorem ndTys_drop{xs:List Dat}{i:Nat}(hi:i<xs.length):ndTys ((xs.drop i).map absTy)=ndTy (absTy xs[i])+ndTys ((xs.drop (i+1)).map absTy):=by
 rw[List.drop_eq_getElem_cons hi];rfl
theorem dpTys_drop{xs:List Dat}{i:Nat}(hi:i<xs.length):dpTys ((xs.drop i).map absTy)=max (dpTy (absTy xs[i])) (dpTys ((xs.drop (i+1)).map absTy)):=by
 rw[List.drop_eq_getElem_cons hi];rfl
theorem dpPts_drop{xs:List Dat}{i:Nat}(hi:i<xs.length):dpPts ((xs.drop i).map absPt)=max (dpPt (absPt xs[i])) (dpPts ((xs.drop (i+1)).map absPt)):=by
 rw[List.drop_eq_getElem_cons hi];rfl
theorem dpExs_drop{xs:List Dat}{i:Nat}(hi:i<xs.length):dpExs ((xs.drop i).map absEx)=max (dpEx (absEx xs[i])) (dpExs ((xs.drop (i+1)).map absEx)):=by
 rw[List.drop_eq_getElem_cons hi];rfl
theorem tdiv10(n:Nat):(n:Int).tdiv 10=((n/10:Nat):Int):=rfl
theorem weighType_all:∀(k:Nat) (x:Dat) (g:Glob) (d n:Int),SizeOf.sizeOf x<k→HasTy TT 94 x→0≤d→d≤601→0≤n→n≤20000→
 ∀(Qf:OGP),(∀r:Int,-1≤r→r≤20000→(0≤r→n+ndTy (absTy x)≤r∧d+dpTy (absTy x)≤601)→Qf (.val (.d (.int .i64 r))) g)→EvF TT 125 [x,.int .i64 d,.int .i64 n] g Qf
 |0,x,g,d,n,hk,_,_,_,_,_=>by omega
 |k+1,x,g,d,n,hk,hx,d0,d1,h0,h1=>by
  intro Qf hQ
  obtain⟨k1,s1,v1,a1,rfl,hs1,t1⟩:=type_ty hx
  have ex:=t1.els undTypes
  have exl:=ex.1.1
  have hc:=sizeOf_cell (cs:=[.int .i64 k1,.str s1,.int .i64 v1,a1]) (c:=a1) (by simp)
  have hw:IntKind.i64.wrap (n+IntKind.i64.wrap (1+IntKind.i64.wrap ((↑(elsOf a1).length:Int).tdiv 10)))=n+(1+(((elsOf a1).length/10:Nat):Int)):=by
   rw[tdiv10,wrap_id (n:=(((elsOf a1).length/10:Nat):Int)) (by omega) (by omega),wrap_id (n:=1+(((elsOf a1).length/10:Nat):Int)) (by omega) (by omega),wrap_id (by omega) (by omega)]
  refine w125 hx ⟨neZ (by decide),?_⟩
  rw[show(fld (Dat.agg [.int .i64 k1,.str s1,.int .i64 v1,a1]) 3)=a1 from rfl,hw]
  refine Br_iff.2 ⟨λ_=>hQ _ (by omega) (by omega) (λh=>by omega),λq1=>Br_iff.2 ⟨λ_=>hQ _ (by omega) (by omega) (λh=>by omega),λq2=>?_⟩⟩
  have q1:=of_decide_eq_false q1
  have q2:=of_decide_eq_false q2
  have e1:ndTy (absTy (.agg [.int .i64 k1,.str s1,.int .i64 v1,a1]))=1+ndTys (((elsOf a1).drop 0).map absTy):=by simp only[absTy,ndTy,absTyA_map,List.drop_zero]
  have e2:dpTy (absTy (.agg [.int .i64 k1,.str s1,.int .i64 v1,a1]))=1+dpTys (((elsOf a1).drop 0).map absTy):=by simp only[absTy,dpTy,absTyA_map,List.drop_zero]
  rw[e1,e2] at hQ
  refine loopUp (len:=(elsOf a1).length) (λi=>∀m:Int,-1≤m→m≤20000→(∀r:Int,-1≤r→r≤20000→(0≤r→0≤m∧m+ndTys (((elsOf a1).drop i).map absTy)≤r∧d+(1+dpTys (((elsOf a1).drop i).map absTy))≤601)→Qf (.val (.d (.int .i64 r))) g)→L125_5 d m (i:Int) (.agg [.int .i64 k1,.str s1,.int .i64 v1,a1]) g Qf) ?_ ?_ 0 (Nat.zero_le _) _ (by omega) (by omega) (λr r0 r1 h=>hQ r r0 r1 λhr=>⟨by have:=(h hr).2.1;omega,by have:=(h hr).2.2;omega⟩)
  ·intro m m0 m1 hQ
   refine w125_5 ?_
   rw[show(fld (Dat.agg [.int .i64 k1,.str s1,.int .i64 v1,a1]) 3)=a1 from rfl,Br_ge]
   exact hQ _ m0 m1 λhr=>by rw[List.drop_length];simp only[List.map_nil,ndTys,dpTys];omega
  ·intro i hi ih m m0 m1 hQ
   refine w125_5 ?_
   rw[show(fld (Dat.agg [.int .i64 k1,.str s1,.int .i64 v1,a1]) 3)=a1 from rfl,Br_lt hi,getE_nat hi]
   refine Br_iff.2 ⟨λq=>⟨inB hi,?_⟩,λq=>hQ _ m0 m1 λhr=>by have:=of_decide_eq_false q;omega⟩
   have hsz:=sizeOf_el hi
   rw[wrap_id (by omega) (by omega)]
   refine weighType_all k _ g _ _ (by omega) (ex.2 _ (List.getElem_mem hi)) (by omega) (by omega) (of_decide_eq_true q) m1 _ λr r0 r1 hr=>⟨_,rfl,?_⟩
   rw[wrap_nat (by omega)]
   refine ih r r0 r1 λr' s0 s1 hr'=>hQ r' s0 s1 λh'=>?_
   rw[ndTys_drop hi,dpTys_drop hi]
   have a:=hr' h'
   have b:=hr a.1
   have c:=of_decide_eq_true q
   omega
theorem weighPat_all:∀(k:Nat) (x:Dat) (g:Glob) (d n:Int),SizeOf.sizeOf x<k→HasTy TT 127 x→0≤d→d≤601→0≤n→n≤20000→
 ∀(Qf:OGP),(∀r:Int,-1≤r→r≤20000→(0≤r→n+szPt (absPt x)≤r∧d+dpPt (absPt x)≤601)→Qf (.val (.d (.int .i64 r))) g)→EvF TT 159 [x,.int .i64 d,.int .i64 n] g Qf
 |0,x,g,d,n,hk,_,_,_,_,_=>by omega
 |k+1,x,g,d,n,hk,hx,d0,d1,h0,h1=>by
  intro Qf hQ
  obtain⟨k1,s1,v1,a1,p1,rfl,hs1,t1⟩:=pat_ty hx
  have ex:=t1.els undPats
  have exl:=ex.1.1
  have hc:=sizeOf_cell (cs:=[.int .i64 k1,.str s1,.int .i64 v1,a1,.int .i64 p1]) (c:=a1) (by simp)
  have hw:IntKind.i64.wrap (n+IntKind.i64.wrap (1+IntKind.i64.wrap ((↑(elsOf a1).length:Int).tdiv 10)))=n+(1+(((elsOf a1).length/10:Nat):Int)):=by
   rw[tdiv10,wrap_id (n:=(((elsOf a1).length/10:Nat):Int)) (by omega) (by omega),wrap_id (n:=1+(((elsOf a1).length/10:Nat):Int)) (by omega) (by omega),wrap_id (by omega) (by omega)]
  refine w159 hx ⟨neZ (by decide),?_⟩
  rw[show(fld (Dat.agg [.int .i64 k1,.str s1,.int .i64 v1,a1,.int .i64 p1]) 3)=a1 from rfl,hw]
  refine Br_iff.2 ⟨λ_=>hQ _ (by omega) (by omega) (λh=>by omega),λq1=>Br_iff.2 ⟨λ_=>hQ _ (by omega) (by omega) (λh=>by omega),λq2=>?_⟩⟩
  have q1:=of_decide_eq_false q1
  have q2:=of_decide_eq_false q2
  have e1:szPt (absPt (.agg [.int .i64 k1,.str s1,.int .i64 v1,a1,.int .i64 p1]))=1+szPts (((elsOf a1).drop 0).map absPt):=by simp only[absPt,szPt,absPtA_map,List.drop_zero]
  have e2:dpPt (absPt (.agg [.int .i64 k1,.str s1,.int .i64 v1,a1,.int .i64 p1]))=1+dpPts (((elsOf a1).drop 0).map absPt):=by simp only[absPt,dpPt,absPtA_map,List.drop_zero]
  rw[e1,e2] at hQ
  refine loopUp (len:=(elsOf a1).length) (λi=>∀m:Int,-1≤m→m≤20000→(∀r:Int,-1≤r→r≤20000→(0≤r→0≤m∧m+szPts (((elsOf a1).drop i).map absPt)≤r∧d+(1+dpPts (((elsOf a1).drop i).map absPt))≤601)→Qf (.val (.d (.int .i64 r))) g)→L159_5 d m (i:Int) (.agg [.int .i64 k1,.str s1,.int .i64 v1,a1,.int .i64 p1]) g Qf) ?_ ?_ 0 (Nat.zero_le _) _ (by omega) (by omega) (λr r0 r1 h=>hQ r r0 r1 λhr=>⟨by have:=(h hr).2.1;omega,by have:=(h hr).2.2;omega⟩)
  ·intro m m0 m1 hQ
   refine w159_5 ?_
   rw[show(fld (Dat.agg [.int .i64 k1,.str s1,.int .i64 v1,a1,.int .i64 p1]) 3)=a1 from rfl,Br_ge]
   exact hQ _ m0 m1 λhr=>by rw[List.drop_length];simp only[List.map_nil,szPts,dpPts];omega
  ·intro i hi ih m m0 m1 hQ
   refine w159_5 ?_
   rw[show(fld (Dat.agg [.int .i64 k1,.str s1,.int .i64 v1,a1,.int .i64 p1]) 3)=a1 from rfl,Br_lt hi,getE_nat hi]
   refine Br_iff.2 ⟨λq=>⟨inB hi,?_⟩,λq=>hQ _ m0 m1 λhr=>by have:=of_decide_eq_false q;omega⟩
   have hsz:=sizeOf_el hi
   rw[wrap_id (by omega) (by omega)]
   refine weighPat_all k _ g _ _ (by omega) (ex.2 _ (List.getElem_mem hi)) (by omega) (by omega) (of_decide_eq_true q) m1 _ λr r0 r1 hr=>⟨_,rfl,?_⟩
   rw[wrap_nat (by omega)]
   refine ih r r0 r1 λr' s0 s1 hr'=>hQ r' s0 s1 λh'=>?_
   rw[szPts_drop hi,dpPts_drop hi]
   have a:=hr' h'
   have b:=hr a.1
   have c:=of_decide_eq_true q
   omega
theorem weighExpr_all:∀(k:Nat) (x:Dat) (g:Glob) (d n:Int),SizeOf.sizeOf x<k→HasTy TT 27 x→0≤d→d≤601→0≤n→n≤20000→
 ∀(Qf:OGP),(∀r:Int,-1≤r→r≤20000→(0≤r→n+szEx (absEx x)≤r∧d+dpEx (absEx x)≤601)→Qf (.val (.d (.int .i64 r))) g)→EvF TT 88 [x,.int .i64 d,.int .i64 n] g Qf
 |0,x,g,d,n,hk,_,_,_,_,_=>by omega
 |k+1,x,g,d,n,hk,hx,d0,d1,h0,h1=>by
  intro Qf hQ
  obtain⟨k1,s1,r1,v1,a1,b1,p1,rfl,hs1,hr1,t1,u1⟩:=expr_ty hx
  have ex:=t1.els undExprs
  have exl:=ex.1.1
  have eu:=u1.els undPats
  have eul:=eu.1.1
  have hc:=sizeOf_cell (cs:=[.int .i64 k1,.str s1,.str r1,.int .i64 v1,a1,b1,.int .i64 p1]) (c:=a1) (by simp)
  have hw:IntKind.i64.wrap (n+IntKind.i64.wrap (IntKind.i64.wrap (1+IntKind.i64.wrap ((↑(elsOf a1).length:Int).tdiv 10))+IntKind.i64.wrap ((↑(elsOf b1).length:Int).tdiv 10)))=n+((1+(((elsOf a1).length/10:Nat):Int))+(((elsOf b1).length/10:Nat):Int)):=by
   rw[tdiv10,tdiv10,wrap_id (n:=(((elsOf a1).length/10:Nat):Int)) (by omega) (by omega),wrap_id (n:=(((elsOf b1).length/10:Nat):Int)) (by omega) (by omega),wrap_id (n:=1+(((elsOf a1).length/10:Nat):Int)) (by omega) (by omega),wrap_id (n:=(1+(((elsOf a1).length/10:Nat):Int))+(((elsOf b1).length/10:Nat):Int)) (by omega) (by omega),wrap_id (by omega) (by omega)]
  refine w88 hx ⟨neZ (by decide),neZ (by decide),?_⟩
  rw[show(fld (Dat.agg [.int .i64 k1,.str s1,.str r1,.int .i64 v1,a1,b1,.int .i64 p1]) 4)=a1 from rfl,show(fld (Dat.agg [.int .i64 k1,.str s1,.str r1,.int .i64 v1,a1,b1,.int .i64 p1]) 5)=b1 from rfl,hw]
  refine Br_iff.2 ⟨λ_=>hQ _ (by omega) (by omega) (λh=>by omega),λq1=>Br_iff.2 ⟨λ_=>hQ _ (by omega) (by omega) (λh=>by omega),λq2=>?_⟩⟩
  have q1:=of_decide_eq_false q1
  have q2:=of_decide_eq_false q2
  have e1:szEx (absEx (.agg [.int .i64 k1,.str s1,.str r1,.int .i64 v1,a1,b1,.int .i64 p1]))=1+szPts (((elsOf b1).drop 0).map absPt)+szExs (((elsOf a1).drop 0).map absEx):=by simp only[absEx,szEx,absPtA_map,absExA_map,List.drop_zero]
  have e2:dpEx (absEx (.agg [.int .i64 k1,.str s1,.str r1,.int .i64 v1,a1,b1,.int .i64 p1]))=1+max (dpPts (((elsOf b1).drop 0).map absPt)) (dpExs (((elsOf a1).drop 0).map absEx)):=by simp only[absEx,dpEx,absPtA_map,absExA_map,List.drop_zero]
  rw[e1,e2] at hQ
  have args:∀m:Int,-1≤m→m≤20000→(∀r:Int,-1≤r→r≤20000→(0≤r→0≤m∧m+szExs (((elsOf a1).drop 0).map absEx)≤r∧d+(1+dpExs (((elsOf a1).drop 0).map absEx))≤601)→Qf (.val (.d (.int .i64 r))) g)→L88_9 d m 0 (.agg [.int .i64 k1,.str s1,.str r1,.int .i64 v1,a1,b1,.int .i64 p1]) g Qf:=by
   refine loopUp (len:=(elsOf a1).length) (λi=>∀m:Int,-1≤m→m≤20000→(∀r:Int,-1≤r→r≤20000→(0≤r→0≤m∧m+szExs (((elsOf a1).drop i).map absEx)≤r∧d+(1+dpExs (((elsOf a1).drop i).map absEx))≤601)→Qf (.val (.d (.int .i64 r))) g)→L88_9 d m (i:Int) (.agg [.int .i64 k1,.str s1,.str r1,.int .i64 v1,a1,b1,.int .i64 p1]) g Qf) ?_ ?_ 0 (Nat.zero_le _)
   ·intro m m0 m1 hQ
    refine w88_9 ?_
    rw[show(fld (Dat.agg [.int .i64 k1,.str s1,.str r1,.int .i64 v1,a1,b1,.int .i64 p1]) 4)=a1 from rfl,Br_ge]
    exact hQ _ m0 m1 λhr=>by rw[List.drop_length];simp only[List.map_nil,szExs,dpExs];omega
   ·intro i hi ih m m0 m1 hQ
    refine w88_9 ?_
    rw[show(fld (Dat.agg [.int .i64 k1,.str s1,.str r1,.int .i64 v1,a1,b1,.int .i64 p1]) 4)=a1 from rfl,Br_lt hi,getE_nat hi]
    refine Br_iff.2 ⟨λq=>⟨inB hi,?_⟩,λq=>hQ _ m0 m1 λhr=>by have:=of_decide_eq_false q;omega⟩
    have hsz:=sizeOf_el hi
    rw[wrap_id (by omega) (by omega)]
    refine weighExpr_all k _ g _ _ (by omega) (ex.2 _ (List.getElem_mem hi)) (by omega) (by omega) (of_decide_eq_true q) m1 _ λr r0 r1 hr=>⟨_,rfl,?_⟩
    rw[wrap_nat (by omega)]
    refine ih r r0 r1 λr' s0 s1 hr'=>hQ r' s0 s1 λh'=>?_
    rw[szExs_drop hi,dpExs_drop hi]
    have a:=hr' h'
    have b:=hr a.1
    have c:=of_decide_eq_true q
    omega
  refine loopUp (len:=(elsOf b1).length) (λi=>∀m:Int,-1≤m→m≤20000→(∀r:Int,-1≤r→r≤20000→(0≤r→0≤m∧m+szPts (((elsOf b1).drop i).map absPt)+szExs (((elsOf a1).drop 0).map absEx)≤r∧d+(1+max (dpPts (((elsOf b1).drop i).map absPt)) (dpExs (((elsOf a1).drop 0).map absEx)))≤601)→Qf (.val (.d (.int .i64 r))) g)→L88_5 d m (i:Int) (.agg [.int .i64 k1,.str s1,.str r1,.int .i64 v1,a1,b1,.int .i64 p1]) g Qf) ?_ ?_ 0 (Nat.zero_le _) _ (by omega) (by omega) (λr r0 r1 h=>hQ r r0 r1 λhr=>⟨by have:=(h hr).2.1;omega,by have:=(h hr).2.2;omega⟩)
  ·intro m m0 m1 hQ
   refine w88_5 ?_
   rw[show(fld (Dat.agg [.int .i64 k1,.str s1,.str r1,.int .i64 v1,a1,b1,.int .i64 p1]) 5)=b1 from rfl,Br_ge]
   refine args m m0 m1 λr r0 r1 h=>hQ r r0 r1 λhr=>?_
   rw[List.drop_length]
   have:=h hr
   simp only[List.map_nil,szPts,dpPts]
   omega
  ·intro i hi ih m m0 m1 hQ
   refine w88_5 ?_
   rw[show(fld (Dat.agg [.int .i64 k1,.str s1,.str r1,.int .i64 v1,a1,b1,.int .i64 p1]) 5)=b1 from rfl,Br_lt hi,getE_nat hi]
   refine Br_iff.2 ⟨λq=>⟨inB hi,?_⟩,λq=>args m m0 m1 λr r0 r1 h=>hQ r r0 r1 λhr=>by have:=of_decide_eq_false q;have:=h hr;omega⟩
   rw[wrap_id (by omega) (by omega)]
   refine weighPat_all _ _ g _ _ (Nat.lt_succ_self _) (eu.2 _ (List.getElem_mem hi)) (by omega) (by omega) (of_decide_eq_true q) m1 _ λr r0 r1 hr=>⟨_,rfl,?_⟩
   rw[wrap_nat (by omega)]
   refine ih r r0 r1 λr' s0 s1 hr'=>hQ r' s0 s1 λh'=>?_
   rw[szPts_drop hi,dpPts_drop hi]
   have a:=hr' h'
   have b:=hr a.1
   have c:=of_decide_eq_true q
   omega
end Go.Proofs.YtgmapdcdmomioaaGreatDoor.Pa
namespace Go.Proofs.YtgmapdcdmomioaaGreatDoor.Pa
open Go Go.Proofs.YtgmapdcdmomioaaGreatDoor.Am
def SmTy(x:Dat):Prop:=ndTy (absTy x)≤20000∧dpTy (absTy x)≤601
def SmCn(c:Dat):Prop:=∀t∈elsOf (fld c 1),SmTy t
def SmDc(d:Dat):Prop:=∀c∈elsOf (fld d 2),SmCn c
theorem all_step{xs:List Dat}{i:Nat}{P:Dat→Prop}(hi:i<xs.length)(h:∀j (hj:j<i),P (xs[j]'(by omega)))(hp:P xs[i]):∀j (hj:j<i+1),P (xs[j]'(by omega)):=λj hj=>by
 rcases Nat.lt_or_ge j i with q|q
 ·exact h j q
 ·have:j=i:=by omega
  subst this
  exact hp
theorem all_done{xs:List Dat}{P:Dat→Prop}(h:∀j (hj:j<xs.length),P xs[j]):∀x∈xs,P x:=λx hx=>by
 obtain⟨j,hj,rfl⟩:=List.mem_iff_getElem.1 hx
 exact h j hj
theorem largeDecls_all(x:Dat)(g:Glob)(hx:HasTy TT 23 x)(Qf:OGP)(hT:Qf (.val (.d (.bool true))) g)(hF:(∀d∈elsOf x,SmDc d)→Qf (.val (.d (.bool false))) g):EvF TT 58 [x] g Qf:=by
 have ex:=hx.els undDecls
 have exl:=ex.1.1
 refine w58 hx (Br_iff.2 ⟨λ_=>hT,λ_=>?_⟩)
 refine loopUp (len:=(elsOf x).length) (λi=>∀n:Int,0≤n→n≤20000→(hb:i≤(elsOf x).length)→(∀j (hj:j<i),SmDc ((elsOf x)[j]'(by omega)))→L58_5 x n (i:Int) g Qf) ?_ ?_ 0 (Nat.zero_le _) 0 (by omega) (by omega) (Nat.zero_le _) (λj hj=>by omega)
 ·intro n n0 n1 hb hd
  refine w58_5 ?_
  rw[Br_ge]
  exact hF (all_done hd)
 ·intro i hi ih n n0 n1 hb hd
  refine w58_5 ?_
  rw[Br_lt hi]
  refine⟨inB hi,Br_iff.2 ⟨λ_=>hT,λ_=>⟨inB hi,Br_iff.2 ⟨λ_=>hT,λ_=>?_⟩⟩⟩⟩
  obtain⟨s1,a1,b1,p1,e1,hs1,ta1,tb1⟩:=decl_ty (ex.2 _ (List.getElem_mem hi))
  have hf:fld (getE (elsOf x) (i:Int)) 2=b1:=by rw[getE_nat hi,e1];rfl
  have hf':fld (elsOf x)[i] 2=b1:=by rw[e1];rfl
  have eb:=tb1.els undCons
  have ebl:=eb.1.1
  refine loopUp (len:=(elsOf b1).length) (λj=>∀n:Int,0≤n→n≤20000→(hb:j≤(elsOf b1).length)→(∀q (hq:q<j),SmCn ((elsOf b1)[q]'(by omega)))→L58_10 x n (i:Int) (j:Int) g Qf) ?_ ?_ 0 (Nat.zero_le _) n n0 n1 (Nat.zero_le _) (λj hj=>by omega)
  ·intro n n0 n1 hb hc
   refine w58_10 ⟨inB hi,?_⟩
   rw[hf,Br_ge,wrap_nat (by omega)]
   exact ih n n0 n1 (by omega) (all_step hi hd (by unfold SmDc;rw[hf'];exact all_done hc))
  ·intro j hj ihj n n0 n1 hb hc
   refine w58_10 ⟨inB hi,?_⟩
   rw[hf,Br_lt hj]
   refine⟨inB hi,inB hj,Br_iff.2 ⟨λ_=>hT,λ_=>?_⟩⟩
   obtain⟨t1,f1,d1,ht1,tf1⟩:=con_ty (eb.2 _ (List.getElem_mem hj))
   have hf2:fld (getE (elsOf b1) (j:Int)) 1=f1:=by rw[getE_nat hj,d1];rfl
   have hf2':fld (elsOf b1)[j] 1=f1:=by rw[d1];rfl
   have ef:=tf1.els undTypes
   have efl:=ef.1.1
   refine loopUp (len:=(elsOf f1).length) (λq=>∀n:Int,-1≤n→n≤20000→(hb:q≤(elsOf f1).length)→(0≤n→∀u (hu:u<q),SmTy ((elsOf f1)[u]'(by omega)))→L58_15 x n (i:Int) (j:Int) (q:Int) g Qf) ?_ ?_ 0 (Nat.zero_le _) n (by omega) n1 (Nat.zero_le _) (λ_ j hj=>by omega)
   ·intro n n0 n1 hb hu
    refine w58_15 ⟨inB hi,?_⟩
    rw[hf,hf2,Br_ge]
    refine⟨inB hj,Br_iff.2 ⟨λ_=>hT,λq=>?_⟩⟩
    have q:=of_decide_eq_false q
    rw[wrap_nat (by omega)]
    exact ihj n (by omega) n1 (by omega) (all_step hj hc (by unfold SmCn;rw[hf2'];exact all_done (hu (by omega))))
   ·intro q hq ihq n n0 n1 hb hu
    refine w58_15 ⟨inB hi,?_⟩
    rw[hf,hf2,Br_lt hq]
    refine⟨inB hj,Br_iff.2 ⟨λp=>⟨inB hi,inB hj,inB hq,?_⟩,λp=>Br_iff.2 ⟨λ_=>hT,λp'=>?_⟩⟩⟩
    ·rw[getE_nat hq]
     have p:=of_decide_eq_true p
     refine weighType_all _ _ g _ _ (Nat.lt_succ_self _) (ef.2 _ (List.getElem_mem hq)) (by omega) (by omega) p n1 _ λr r0 r1 hr=>⟨_,rfl,?_⟩
     rw[wrap_nat (by omega)]
     exact ihq r r0 r1 (by omega) λhr0=>all_step hq (hu p) ⟨by have:=(hr hr0).1;omega,by have:=(hr hr0).2;omega⟩
    ·have p:=of_decide_eq_false p
     have p':=of_decide_eq_false p'
     omega
theorem large_all(x:Dat)(g:Glob)(hx:HasTy TT 29 x)(Qf:OGP)(hT:Qf (.val (.d (.bool true))) g)
 (hF:(∀d∈elsOf (fld x 0),SmDc d)→szEx (absPg x).e≤20000→dpEx (absPg x).e≤601→Qf (.val (.d (.bool false))) g):EvF TT 21 [x] g Qf:=by
 refine w21 hx ?_
 obtain⟨d1,k1,s1,r1,n1,a1,b1,p1,rfl,hd1,he1⟩:=prog_ty hx
 refine largeDecls_all d1 g hd1 _ ⟨_,rfl,Br_iff.2 ⟨λ_=>hT,λh=>(by cases h)⟩⟩ λhs=>⟨_,rfl,Br_iff.2 ⟨λh=>(by cases h),λ_=>?_⟩⟩
 refine w37 he1 (weighExpr_all _ _ g _ _ (Nat.lt_succ_self _) he1 (by omega) (by omega) (by omega) (by omega) _ λr l0 l1 hr=>⟨_,rfl,⟨_,rfl,?_⟩⟩)
 by_cases h:r<0
 ·rw[decide_eq_true h];exact hT
 ·rw[decide_eq_false h]
  have:=hr (by omega)
  refine hF hs ?_ ?_
  ·show szEx (absEx (.agg [.int .i64 k1,.str s1,.str r1,.int .i64 n1,a1,b1,.int .i64 p1]))≤20000
   omega
  ·show dpEx (absEx (.agg [.int .i64 k1,.str s1,.str r1,.int .i64 n1,a1,b1,.int .i64 p1]))≤601
   omega
end Go.Proofs.YtgmapdcdmomioaaGreatDoor.Pa
namespace Go.Proofs.YtgmapdcdmomioaaGreatDoor.Pa
open Go Go.Proofs.YtgmapdcdmomioaaGreatDoor.Am
def L105_3(n3:Int)(x7:Dat)(n8:Int)(n9:Int)(g:Glob)(Qf:OGP):Prop:=CutP TT Tryz.f105 [1,1,0,1,0] Qf (mkC TT 105 Tryz.f105 1 [(3,.v 3 (.int .i64 n3)),(7,.v 89 (x7)),(8,.v 3 (.int .i64 n8)),(9,.v 3 (.int .i64 n9))] [] g)
def lo105:List CutI:=[⟨3,[(3,.keep),(7,.keep),(8,.keep),(9,.keep)],[]⟩]
theorem w105{x0:Dat}{g:Glob}{Qf:OGP}(h0:HasTy TT 94 x0)
 (h:L105_3 0 (fld x0 3) (↑(elsOf (fld x0 3)).length:Int) 0 g Qf):
 EvF TT 105 [x0] g Qf:=
 sx_fun (rk:=rk) (fn:=Tryz.f105) (loops:=lo105) (joins:=[]) (n:=100000) (args:=[(94,x0)]) rfl rfl rfl rfl ⟨h0,trivial⟩ (by kernel_rfl) h
theorem w105_3{n3:Int}{x7:Dat}{n8:Int}{n9:Int}{g:Glob}{Qf:OGP}
 (h:Br (decide (n9<n8)) (InB n9 (elsOf x7).length∧EvF TT 105 [getE (elsOf x7) n9] g (KQ Qf λv g'=>∃n,v=.d (.int .i64 n)∧L105_3 (maxS true n3 n) x7 n8 (IntKind.i64.wrap (n9+1)) g' Qf)) (Qf (.val (.d (.int .i64 (IntKind.i64.wrap (n3+1))))) g)):
 L105_3 n3 x7 n8 n9 g Qf:=sx_cut (rk:=rk) (loops:=lo105) (joins:=[]) (n:=100000) (by kernel_rfl) h
def L186_3(n3:Int)(x7:Dat)(n8:Int)(n9:Int)(g:Glob)(Qf:OGP):Prop:=CutP TT Tryz.f186 [1,1,0,1,0] Qf (mkC TT 186 Tryz.f186 1 [(3,.v 3 (.int .i64 n3)),(7,.v 25 (x7)),(8,.v 3 (.int .i64 n8)),(9,.v 3 (.int .i64 n9))] [] g)
def lo186:List CutI:=[⟨3,[(3,.keep),(7,.keep),(8,.keep),(9,.keep)],[]⟩]
theorem w186{x0:Dat}{g:Glob}{Qf:OGP}(h0:HasTy TT 127 x0)
 (h:L186_3 0 (fld x0 3) (↑(elsOf (fld x0 3)).length:Int) 0 g Qf):
 EvF TT 186 [x0] g Qf:=
 sx_fun (rk:=rk) (fn:=Tryz.f186) (loops:=lo186) (joins:=[]) (n:=100000) (args:=[(127,x0)]) rfl rfl rfl rfl ⟨h0,trivial⟩ (by kernel_rfl) h
theorem w186_3{n3:Int}{x7:Dat}{n8:Int}{n9:Int}{g:Glob}{Qf:OGP}
 (h:Br (decide (n9<n8)) (InB n9 (elsOf x7).length∧EvF TT 186 [getE (elsOf x7) n9] g (KQ Qf λv g'=>∃n,v=.d (.int .i64 n)∧L186_3 (maxS true n3 n) x7 n8 (IntKind.i64.wrap (n9+1)) g' Qf)) (Qf (.val (.d (.int .i64 (IntKind.i64.wrap (n3+1))))) g)):
 L186_3 n3 x7 n8 n9 g Qf:=sx_cut (rk:=rk) (loops:=lo186) (joins:=[]) (n:=100000) (by kernel_rfl) h
def L104_3(n3:Int)(x9:Dat)(n10:Int)(n11:Int)(y1:Dat)(g:Glob)(Qf:OGP):Prop:=CutP TT Tryz.f104 [1,1,0,1,0] Qf (mkC TT 104 Tryz.f104 1 [(1,.loc 1 0 0),(3,.v 3 (.int .i64 n3)),(9,.v 25 (x9)),(10,.v 3 (.int .i64 n10)),(11,.v 3 (.int .i64 n11))] [(1,.whole 27 y1)] g)
def L104_8(n3:Int)(x21:Dat)(n22:Int)(n23:Int)(g:Glob)(Qf:OGP):Prop:=CutP TT Tryz.f104 [1,1,1,0,1,0] Qf (mkC TT 104 Tryz.f104 1 [(3,.v 3 (.int .i64 n3)),(21,.v 24 (x21)),(22,.v 3 (.int .i64 n22)),(23,.v 3 (.int .i64 n23))] [] g)
def lo104:List CutI:=[⟨3,[(1,.keep),(3,.keep),(9,.keep),(10,.keep),(11,.keep)],[(1,.whole 27)]⟩,⟨8,[(3,.keep),(21,.keep),(22,.keep),(23,.keep)],[]⟩]
theorem w104{x0:Dat}{g:Glob}{Qf:OGP}(h0:HasTy TT 27 x0)
 (h:L104_3 0 (fld x0 5) (↑(elsOf (fld x0 5)).length:Int) 0 x0 g Qf):
 EvF TT 104 [x0] g Qf:=
 sx_fun (rk:=rk) (fn:=Tryz.f104) (loops:=lo104) (joins:=[]) (n:=100000) (args:=[(27,x0)]) rfl rfl rfl rfl ⟨h0,trivial⟩ (by kernel_rfl) h
theorem w104_3{n3:Int}{x9:Dat}{n10:Int}{n11:Int}{y1:Dat}{g:Glob}{Qf:OGP}
 (h:Br (decide (n11<n10)) (InB n11 (elsOf x9).length∧EvF TT 186 [getE (elsOf x9) n11] g (KQ Qf λv g'=>∃n,v=.d (.int .i64 n)∧L104_3 (maxS true n3 n) x9 n10 (IntKind.i64.wrap (n11+1)) y1 g' Qf)) (L104_8 n3 (fld y1 4) (↑(elsOf (fld y1 4)).length:Int) 0 g Qf)):
 L104_3 n3 x9 n10 n11 y1 g Qf:=sx_cut (rk:=rk) (loops:=lo104) (joins:=[]) (n:=100000) (by kernel_rfl) h
theorem w104_8{n3:Int}{x21:Dat}{n22:Int}{n23:Int}{g:Glob}{Qf:OGP}
 (h:Br (decide (n23<n22)) (InB n23 (elsOf x21).length∧EvF TT 104 [getE (elsOf x21) n23] g (KQ Qf λv g'=>∃n,v=.d (.int .i64 n)∧L104_8 (maxS true n3 n) x21 n22 (IntKind.i64.wrap (n23+1)) g' Qf)) (Qf (.val (.d (.int .i64 (IntKind.i64.wrap (n3+1))))) g)):
 L104_8 n3 x21 n22 n23 g Qf:=sx_cut (rk:=rk) (loops:=lo104) (joins:=[]) (n:=100000) (by kernel_rfl) h
def L74_4(n1:Int)(n5:Int)(y2:Dat)(g:Glob)(Qf:OGP):Prop:=CutP TT Tryz.f74 [1,1,0,1,0] Qf (mkC TT 74 Tryz.f74 2 [(1,.v 3 (.int .i64 n1)),(2,.loc 2 0 0),(5,.v 3 (.int .i64 n5))] [(2,.whole 94 y2)] g)
def lo74:List CutI:=[⟨4,[(1,.keep),(2,.keep),(5,.keep)],[(2,.whole 94)]⟩]
theorem w74{x0:Dat}{n1:Int}{g:Glob}{Qf:OGP}(h0:HasTy TT 94 x0)
 (h:Br (n1==0) (Qf (.val (.d (.bool true))) g) (L74_4 n1 0 x0 g Qf)):
 EvF TT 74 [x0,.int .i64 n1] g Qf:=
 sx_fun (rk:=rk) (fn:=Tryz.f74) (loops:=lo74) (joins:=[]) (n:=100000) (args:=[(94,x0),(3,.int .i64 n1)]) rfl rfl rfl rfl ⟨h0,tyInt rfl,trivial⟩ (by kernel_rfl) h
theorem w74_4{n1:Int}{n5:Int}{y2:Dat}{g:Glob}{Qf:OGP}
 (h:Br (decide (n5<(↑(elsOf (fld y2 3)).length:Int))) (InB n5 (elsOf (fld y2 3)).length∧EvF TT 74 [getE (elsOf (fld y2 3)) n5,.int .i64 (IntKind.i64.wrap (n1-1))] g (KQ Qf λv g'=>∃b,v=.d (.bool b)∧Br b (Qf (.val (.d (.bool true))) g') (L74_4 n1 (IntKind.i64.wrap (n5+1)) y2 g' Qf))) (Qf (.val (.d (.bool false))) g)):
 L74_4 n1 n5 y2 g Qf:=sx_cut (rk:=rk) (loops:=lo74) (joins:=[]) (n:=100000) (by kernel_rfl) h
def L193_4(n1:Int)(n5:Int)(y2:Dat)(g:Glob)(Qf:OGP):Prop:=CutP TT Tryz.f193 [1,1,0,1,0] Qf (mkC TT 193 Tryz.f193 2 [(1,.v 3 (.int .i64 n1)),(2,.loc 2 0 0),(5,.v 3 (.int .i64 n5))] [(2,.whole 127 y2)] g)
def lo193:List CutI:=[⟨4,[(1,.keep),(2,.keep),(5,.keep)],[(2,.whole 127)]⟩]
theorem w193{x0:Dat}{n1:Int}{g:Glob}{Qf:OGP}(h0:HasTy TT 127 x0)
 (h:Br (n1==0) (Qf (.val (.d (.bool true))) g) (L193_4 n1 0 x0 g Qf)):
 EvF TT 193 [x0,.int .i64 n1] g Qf:=
 sx_fun (rk:=rk) (fn:=Tryz.f193) (loops:=lo193) (joins:=[]) (n:=100000) (args:=[(127,x0),(3,.int .i64 n1)]) rfl rfl rfl rfl ⟨h0,tyInt rfl,trivial⟩ (by kernel_rfl) h
theorem w193_4{n1:Int}{n5:Int}{y2:Dat}{g:Glob}{Qf:OGP}
 (h:Br (decide (n5<(↑(elsOf (fld y2 3)).length:Int))) (InB n5 (elsOf (fld y2 3)).length∧EvF TT 193 [getE (elsOf (fld y2 3)) n5,.int .i64 (IntKind.i64.wrap (n1-1))] g (KQ Qf λv g'=>∃b,v=.d (.bool b)∧Br b (Qf (.val (.d (.bool true))) g') (L193_4 n1 (IntKind.i64.wrap (n5+1)) y2 g' Qf))) (Qf (.val (.d (.bool false))) g)):
 L193_4 n1 n5 y2 g Qf:=sx_cut (rk:=rk) (loops:=lo193) (joins:=[]) (n:=100000) (by kernel_rfl) h
def L115_4(n1:Int)(n5:Int)(y2:Dat)(g:Glob)(Qf:OGP):Prop:=CutP TT Tryz.f115 [1,1,0,1,0] Qf (mkC TT 115 Tryz.f115 2 [(1,.v 3 (.int .i64 n1)),(2,.loc 2 0 0),(5,.v 3 (.int .i64 n5))] [(2,.whole 27 y2)] g)
def L115_9(n1:Int)(n6:Int)(y2:Dat)(g:Glob)(Qf:OGP):Prop:=CutP TT Tryz.f115 [1,1,1,0,1,0] Qf (mkC TT 115 Tryz.f115 2 [(1,.v 3 (.int .i64 n1)),(2,.loc 2 0 0),(6,.v 3 (.int .i64 n6))] [(2,.whole 27 y2)] g)
def lo115:List CutI:=[⟨4,[(1,.keep),(2,.keep),(5,.keep)],[(2,.whole 27)]⟩,⟨9,[(1,.keep),(2,.keep),(6,.keep)],[(2,.whole 27)]⟩]
theorem w115{x0:Dat}{n1:Int}{g:Glob}{Qf:OGP}(h0:HasTy TT 27 x0)
 (h:Br (n1==0) (Qf (.val (.d (.bool true))) g) (L115_4 n1 0 x0 g Qf)):
 EvF TT 115 [x0,.int .i64 n1] g Qf:=
 sx_fun (rk:=rk) (fn:=Tryz.f115) (loops:=lo115) (joins:=[]) (n:=100000) (args:=[(27,x0),(3,.int .i64 n1)]) rfl rfl rfl rfl ⟨h0,tyInt rfl,trivial⟩ (by kernel_rfl) h
theorem w115_4{n1:Int}{n5:Int}{y2:Dat}{g:Glob}{Qf:OGP}
 (h:Br (decide (n5<(↑(elsOf (fld y2 5)).length:Int))) (InB n5 (elsOf (fld y2 5)).length∧EvF TT 193 [getE (elsOf (fld y2 5)) n5,.int .i64 (IntKind.i64.wrap (n1-1))] g (KQ Qf λv g'=>∃b,v=.d (.bool b)∧Br b (Qf (.val (.d (.bool true))) g') (L115_4 n1 (IntKind.i64.wrap (n5+1)) y2 g' Qf))) (L115_9 n1 0 y2 g Qf)):
 L115_4 n1 n5 y2 g Qf:=sx_cut (rk:=rk) (loops:=lo115) (joins:=[]) (n:=100000) (by kernel_rfl) h
theorem w115_9{n1:Int}{n6:Int}{y2:Dat}{g:Glob}{Qf:OGP}
 (h:Br (decide (n6<(↑(elsOf (fld y2 4)).length:Int))) (InB n6 (elsOf (fld y2 4)).length∧EvF TT 115 [getE (elsOf (fld y2 4)) n6,.int .i64 (IntKind.i64.wrap (n1-1))] g (KQ Qf λv g'=>∃b,v=.d (.bool b)∧Br b (Qf (.val (.d (.bool true))) g') (L115_9 n1 (IntKind.i64.wrap (n6+1)) y2 g' Qf))) (Qf (.val (.d (.bool false))) g)):
 L115_9 n1 n6 y2 g Qf:=sx_cut (rk:=rk) (loops:=lo115) (joins:=[]) (n:=100000) (by kernel_rfl) h
end Go.Proofs.YtgmapdcdmomioaaGreatDoor.Pa
namespace Go.Proofs.YtgmapdcdmomioaaGreatDoor.Pa
open Go Go.Proofs.YtgmapdcdmomioaaGreatDoor.Am
theorem maxS_nat(a b:Nat):maxS true (a:Int) (b:Int)=((max a b:Nat):Int):=by
 simp only[maxS,if_true]
 split<;>omega
theorem typeDeep_ok:∀(k:Nat) (x:Dat) (g:Glob),SizeOf.sizeOf x<k→HasTy TT 94 x→dpTy (absTy x)≤20000→∀(Qf:OGP),Qf (.val (.d (.int .i64 (dpTy (absTy x):Nat)))) g→EvF TT 105 [x] g Qf
 |0,x,g,hk,_,_=>by omega
 |k+1,x,g,hk,hx,hd=>by
  intro Qf hQ
  refine w105 hx ?_
  obtain⟨k1,s1,v1,a1,rfl,hs1,t1⟩:=type_ty hx
  have ex:=t1.els undTypes
  have exl:=ex.1.1
  have hc:=sizeOf_cell (cs:=[.int .i64 k1,.str s1,.int .i64 v1,a1]) (c:=a1) (by simp)
  have e2:dpTy (absTy (.agg [.int .i64 k1,.str s1,.int .i64 v1,a1]))=1+dpTys (((elsOf a1).drop 0).map absTy):=by simp only[absTy,dpTy,absTyA_map,List.drop_zero]
  rw[e2] at hQ hd
  rw[show(fld (Dat.agg [.int .i64 k1,.str s1,.int .i64 v1,a1]) 3)=a1 from rfl]
  refine loopUp (len:=(elsOf a1).length) (λi=>∀m:Nat,1+max m (dpTys (((elsOf a1).drop i).map absTy))≤20000→Qf (.val (.d (.int .i64 ((1+max m (dpTys (((elsOf a1).drop i).map absTy)):Nat))))) g→L105_3 (m:Int) a1 ((elsOf a1).length:Int) (i:Int) g Qf) ?_ ?_ 0 (Nat.zero_le _) 0 (by omega) (by rw[Nat.zero_max];exact hQ)
  ·intro m hm hQ
   refine w105_3 ?_
   rw[Br_ge,wrap_nat (by omega)]
   rw[List.drop_length] at hQ
   simp only[List.map_nil,dpTys,Nat.max_zero] at hQ
   rw[show m+1=1+m by omega]
   exact hQ
  ·intro i hi ih m hm hQ
   refine w105_3 ?_
   rw[Br_lt hi,getE_nat hi]
   refine⟨inB hi,?_⟩
   have hsz:=sizeOf_el hi
   rw[dpTys_drop hi] at hm hQ
   refine typeDeep_ok k _ g (by omega) (ex.2 _ (List.getElem_mem hi)) (by omega) _ ⟨_,rfl,?_⟩
   rw[wrap_nat (by omega),maxS_nat]
   refine ih _ (by rw[Nat.max_assoc];exact hm) (by rw[Nat.max_assoc];exact hQ)
theorem patDeep_ok:∀(k:Nat) (x:Dat) (g:Glob),SizeOf.sizeOf x<k→HasTy TT 127 x→dpPt (absPt x)≤20000→∀(Qf:OGP),Qf (.val (.d (.int .i64 (dpPt (absPt x):Nat)))) g→EvF TT 186 [x] g Qf
 |0,x,g,hk,_,_=>by omega
 |k+1,x,g,hk,hx,hd=>by
  intro Qf hQ
  refine w186 hx ?_
  obtain⟨k1,s1,v1,a1,p1,rfl,hs1,t1⟩:=pat_ty hx
  have ex:=t1.els undPats
  have exl:=ex.1.1
  have hc:=sizeOf_cell (cs:=[.int .i64 k1,.str s1,.int .i64 v1,a1,.int .i64 p1]) (c:=a1) (by simp)
  have e2:dpPt (absPt (.agg [.int .i64 k1,.str s1,.int .i64 v1,a1,.int .i64 p1]))=1+dpPts (((elsOf a1).drop 0).map absPt):=by simp only[absPt,dpPt,absPtA_map,List.drop_zero]
  rw[e2] at hQ hd
  rw[show(fld (Dat.agg [.int .i64 k1,.str s1,.int .i64 v1,a1,.int .i64 p1]) 3)=a1 from rfl]
  refine loopUp (len:=(elsOf a1).length) (λi=>∀m:Nat,1+max m (dpPts (((elsOf a1).drop i).map absPt))≤20000→Qf (.val (.d (.int .i64 ((1+max m (dpPts (((elsOf a1).drop i).map absPt)):Nat))))) g→L186_3 (m:Int) a1 ((elsOf a1).length:Int) (i:Int) g Qf) ?_ ?_ 0 (Nat.zero_le _) 0 (by omega) (by rw[Nat.zero_max];exact hQ)
  ·intro m hm hQ
   refine w186_3 ?_
   rw[Br_ge,wrap_nat (by omega)]
   rw[List.drop_length] at hQ
   simp only[List.map_nil,dpPts,Nat.max_zero] at hQ
   rw[show m+1=1+m by omega]
   exact hQ
  ·intro i hi ih m hm hQ
   refine w186_3 ?_
   rw[Br_lt hi,getE_nat hi]
   refine⟨inB hi,?_⟩
   have hsz:=sizeOf_el hi
   rw[dpPts_drop hi] at hm hQ
   refine patDeep_ok k _ g (by omega) (ex.2 _ (List.getElem_mem hi)) (by omega) _ ⟨_,rfl,?_⟩
   rw[wrap_nat (by omega),maxS_nat]
   refine ih _ (by rw[Nat.max_assoc];exact hm) (by rw[Nat.max_assoc];exact hQ)
theorem deep_ok:∀(k:Nat) (x:Dat) (g:Glob),SizeOf.sizeOf x<k→HasTy TT 27 x→dpEx (absEx x)≤20000→∀(Qf:OGP),Qf (.val (.d (.int .i64 (dpEx (absEx x):Nat)))) g→EvF TT 104 [x] g Qf
 |0,x,g,hk,_,_=>by omega
 |k+1,x,g,hk,hx,hd=>by
  intro Qf hQ
  refine w104 hx ?_
  obtain⟨k1,s1,r1,v1,a1,b1,p1,rfl,hs1,hr1,t1,u1⟩:=expr_ty hx
  have ex:=t1.els undExprs
  have exl:=ex.1.1
  have eu:=u1.els undPats
  have eul:=eu.1.1
  have hc:=sizeOf_cell (cs:=[.int .i64 k1,.str s1,.str r1,.int .i64 v1,a1,b1,.int .i64 p1]) (c:=a1) (by simp)
  have e2:dpEx (absEx (.agg [.int .i64 k1,.str s1,.str r1,.int .i64 v1,a1,b1,.int .i64 p1]))=1+max (dpPts (((elsOf b1).drop 0).map absPt)) (dpExs (((elsOf a1).drop 0).map absEx)):=by simp only[absEx,dpEx,absPtA_map,absExA_map,List.drop_zero]
  rw[e2] at hQ hd
  rw[show(fld (Dat.agg [.int .i64 k1,.str s1,.str r1,.int .i64 v1,a1,b1,.int .i64 p1]) 5)=b1 from rfl]
  have args:∀m:Nat,1+max m (dpExs (((elsOf a1).drop 0).map absEx))≤20000→Qf (.val (.d (.int .i64 ((1+max m (dpExs (((elsOf a1).drop 0).map absEx)):Nat))))) g→L104_8 (m:Int) a1 ((elsOf a1).length:Int) 0 g Qf:=by
   refine loopUp (len:=(elsOf a1).length) (λi=>∀m:Nat,1+max m (dpExs (((elsOf a1).drop i).map absEx))≤20000→Qf (.val (.d (.int .i64 ((1+max m (dpExs (((elsOf a1).drop i).map absEx)):Nat))))) g→L104_8 (m:Int) a1 ((elsOf a1).length:Int) (i:Int) g Qf) ?_ ?_ 0 (Nat.zero_le _)
   ·intro m hm hQ
    refine w104_8 ?_
    rw[Br_ge,wrap_nat (by omega)]
    rw[List.drop_length] at hQ
    simp only[List.map_nil,dpExs,Nat.max_zero] at hQ
    rw[show m+1=1+m by omega]
    exact hQ
   ·intro i hi ih m hm hQ
    refine w104_8 ?_
    rw[Br_lt hi,getE_nat hi]
    refine⟨inB hi,?_⟩
    have hsz:=sizeOf_el hi
    rw[dpExs_drop hi] at hm hQ
    refine deep_ok k _ g (by omega) (ex.2 _ (List.getElem_mem hi)) (by omega) _ ⟨_,rfl,?_⟩
    rw[wrap_nat (by omega),maxS_nat]
    refine ih _ (by rw[Nat.max_assoc];exact hm) (by rw[Nat.max_assoc];exact hQ)
  refine loopUp (len:=(elsOf b1).length) (λi=>∀m:Nat,1+max (max m (dpPts (((elsOf b1).drop i).map absPt))) (dpExs (((elsOf a1).drop 0).map absEx))≤20000→Qf (.val (.d (.int .i64 ((1+max (max m (dpPts (((elsOf b1).drop i).map absPt))) (dpExs (((elsOf a1).drop 0).map absEx)):Nat))))) g→L104_3 (m:Int) b1 ((elsOf b1).length:Int) (i:Int) (.agg [.int .i64 k1,.str s1,.str r1,.int .i64 v1,a1,b1,.int .i64 p1]) g Qf) ?_ ?_ 0 (Nat.zero_le _) 0 (by rw[Nat.zero_max];exact hd) (by rw[Nat.zero_max];exact hQ)
  ·intro m hm hQ
   refine w104_3 ?_
   rw[Br_ge,show(fld (Dat.agg [.int .i64 k1,.str s1,.str r1,.int .i64 v1,a1,b1,.int .i64 p1]) 4)=a1 from rfl]
   rw[List.drop_length] at hQ hm
   simp only[List.map_nil,dpPts,Nat.max_zero] at hQ hm
   exact args m hm hQ
  ·intro i hi ih m hm hQ
   refine w104_3 ?_
   rw[Br_lt hi,getE_nat hi]
   refine⟨inB hi,?_⟩
   rw[dpPts_drop hi] at hm hQ
   refine patDeep_ok _ _ g (Nat.lt_succ_self _) (eu.2 _ (List.getElem_mem hi)) (by omega) _ ⟨_,rfl,?_⟩
   rw[wrap_nat (by omega),maxS_nat]
   refine ih _ (by rw[Nat.max_assoc m];exact hm) (by rw[Nat.max_assoc m];exact hQ)
theorem deepType_ok:∀(k:Nat) (x:Dat) (g:Glob) (l:Nat),SizeOf.sizeOf x<k→HasTy TT 94 x→l≤2^20→∀(Qf:OGP),Qf (.val (.d (.bool (decide (l<dpTy (absTy x)))))) g→EvF TT 74 [x,.int .i64 (l:Int)] g Qf
 |0,x,g,l,hk,_,_=>by omega
 |k+1,x,g,l,hk,hx,hl=>by
  intro Qf hQ
  refine w74 hx ?_
  obtain⟨k1,s1,v1,a1,rfl,hs1,t1⟩:=type_ty hx
  have ex:=t1.els undTypes
  have exl:=ex.1.1
  have hc:=sizeOf_cell (cs:=[.int .i64 k1,.str s1,.int .i64 v1,a1]) (c:=a1) (by simp)
  have e2:dpTy (absTy (.agg [.int .i64 k1,.str s1,.int .i64 v1,a1]))=1+dpTys (((elsOf a1).drop 0).map absTy):=by simp only[absTy,dpTy,absTyA_map,List.drop_zero]
  rw[e2] at hQ
  refine Br_iff.2 ⟨λq=>?_,λq=>?_⟩
  ·have:(l:Int)=0:=by simpa using q
   rw[decide_eq_true (by omega)] at hQ
   exact hQ
  ·have:¬(l:Int)=0:=by simpa using q
   obtain⟨l,rfl⟩:∃m,l=m+1:=⟨l-1,by omega⟩
   rw[show decide (l+1<1+dpTys (((elsOf a1).drop 0).map absTy))=decide (l<dpTys (((elsOf a1).drop 0).map absTy)) from decide_eq_decide.2 (by omega)] at hQ
   refine loopUp (len:=(elsOf a1).length) (λi=>Qf (.val (.d (.bool (decide (l<dpTys (((elsOf a1).drop i).map absTy)))))) g→L74_4 ((l+1:Nat):Int) (i:Int) (.agg [.int .i64 k1,.str s1,.int .i64 v1,a1]) g Qf) ?_ ?_ 0 (Nat.zero_le _) hQ
   ·intro hQ
    refine w74_4 ?_
    rw[show(fld (Dat.agg [.int .i64 k1,.str s1,.int .i64 v1,a1]) 3)=a1 from rfl,Br_ge]
    rw[List.drop_length] at hQ
    exact(show decide (l<dpTys (([]:List Dat).map absTy))=false from decide_eq_false (by simp[dpTys]))▸hQ
   ·intro i hi ih hQ
    refine w74_4 ?_
    rw[show(fld (Dat.agg [.int .i64 k1,.str s1,.int .i64 v1,a1]) 3)=a1 from rfl,Br_lt hi,getE_nat hi]
    refine⟨inB hi,?_⟩
    have hsz:=sizeOf_el hi
    rw[show IntKind.i64.wrap (((l+1:Nat):Int)-1)=(l:Int) by rw[wrap_id (by omega) (by omega)];omega]
    refine deepType_ok k _ g l (by omega) (ex.2 _ (List.getElem_mem hi)) (by omega) _ ⟨_,rfl,Br_iff.2 ⟨λq=>?_,λq=>?_⟩⟩
    ·have q:=of_decide_eq_true q
     rw[dpTys_drop hi,decide_eq_true (by omega)] at hQ
     exact hQ
    ·have q:=of_decide_eq_false q
     rw[wrap_nat (by omega)]
     refine ih ?_
     rw[dpTys_drop hi] at hQ
     exact(show decide (l<max (dpTy (absTy (elsOf a1)[i])) (dpTys (((elsOf a1).drop (i+1)).map absTy)))=decide (l<dpTys (((elsOf a1).drop (i+1)).map absTy)) from decide_eq_decide.2 (by omega))▸hQ
theorem deepPat_ok:∀(k:Nat) (x:Dat) (g:Glob) (l:Nat),SizeOf.sizeOf x<k→HasTy TT 127 x→l≤2^20→∀(Qf:OGP),Qf (.val (.d (.bool (decide (l<dpPt (absPt x)))))) g→EvF TT 193 [x,.int .i64 (l:Int)] g Qf
 |0,x,g,l,hk,_,_=>by omega
 |k+1,x,g,l,hk,hx,hl=>by
  intro Qf hQ
  refine w193 hx ?_
  obtain⟨k1,s1,v1,a1,p1,rfl,hs1,t1⟩:=pat_ty hx
  have ex:=t1.els undPats
  have exl:=ex.1.1
  have hc:=sizeOf_cell (cs:=[.int .i64 k1,.str s1,.int .i64 v1,a1,.int .i64 p1]) (c:=a1) (by simp)
  have e2:dpPt (absPt (.agg [.int .i64 k1,.str s1,.int .i64 v1,a1,.int .i64 p1]))=1+dpPts (((elsOf a1).drop 0).map absPt):=by simp only[absPt,dpPt,absPtA_map,List.drop_zero]
  rw[e2] at hQ
  refine Br_iff.2 ⟨λq=>?_,λq=>?_⟩
  ·have:(l:Int)=0:=by simpa using q
   rw[decide_eq_true (by omega)] at hQ
   exact hQ
  ·have:¬(l:Int)=0:=by simpa using q
   obtain⟨l,rfl⟩:∃m,l=m+1:=⟨l-1,by omega⟩
   rw[show decide (l+1<1+dpPts (((elsOf a1).drop 0).map absPt))=decide (l<dpPts (((elsOf a1).drop 0).map absPt)) from decide_eq_decide.2 (by omega)] at hQ
   refine loopUp (len:=(elsOf a1).length) (λi=>Qf (.val (.d (.bool (decide (l<dpPts (((elsOf a1).drop i).map absPt)))))) g→L193_4 ((l+1:Nat):Int) (i:Int) (.agg [.int .i64 k1,.str s1,.int .i64 v1,a1,.int .i64 p1]) g Qf) ?_ ?_ 0 (Nat.zero_le _) hQ
   ·intro hQ
    refine w193_4 ?_
    rw[show(fld (Dat.agg [.int .i64 k1,.str s1,.int .i64 v1,a1,.int .i64 p1]) 3)=a1 from rfl,Br_ge]
    rw[List.drop_length] at hQ
    exact(show decide (l<dpPts (([]:List Dat).map absPt))=false from decide_eq_false (by simp[dpPts]))▸hQ
   ·intro i hi ih hQ
    refine w193_4 ?_
    rw[show(fld (Dat.agg [.int .i64 k1,.str s1,.int .i64 v1,a1,.int .i64 p1]) 3)=a1 from rfl,Br_lt hi,getE_nat hi]
    refine⟨inB hi,?_⟩
    have hsz:=sizeOf_el hi
    rw[show IntKind.i64.wrap (((l+1:Nat):Int)-1)=(l:Int) by rw[wrap_id (by omega) (by omega)];omega]
    refine deepPat_ok k _ g l (by omega) (ex.2 _ (List.getElem_mem hi)) (by omega) _ ⟨_,rfl,Br_iff.2 ⟨λq=>?_,λq=>?_⟩⟩
    ·have q:=of_decide_eq_true q
     rw[dpPts_drop hi,decide_eq_true (by omega)] at hQ
     exact hQ
    ·have q:=of_decide_eq_false q
     rw[wrap_nat (by omega)]
     refine ih ?_
     rw[dpPts_drop hi] at hQ
     exact(show decide (l<max (dpPt (absPt (elsOf a1)[i])) (dpPts (((elsOf a1).drop (i+1)).map absPt)))=decide (l<dpPts (((elsOf a1).drop (i+1)).map absPt)) from decide_eq_decide.2 (by omega))▸hQ
theorem deepExpr_ok:∀(k:Nat) (x:Dat) (g:Glob) (l:Nat),SizeOf.sizeOf x<k→HasTy TT 27 x→l≤2^20→∀(Qf:OGP),Qf (.val (.d (.bool (decide (l<dpEx (absEx x)))))) g→EvF TT 115 [x,.int .i64 (l:Int)] g Qf
 |0,x,g,l,hk,_,_=>by omega
 |k+1,x,g,l,hk,hx,hl=>by
  intro Qf hQ
  refine w115 hx ?_
  obtain⟨k1,s1,r1,v1,a1,b1,p1,rfl,hs1,hr1,t1,u1⟩:=expr_ty hx
  have ex:=t1.els undExprs
  have exl:=ex.1.1
  have eu:=u1.els undPats
  have eul:=eu.1.1
  have hc:=sizeOf_cell (cs:=[.int .i64 k1,.str s1,.str r1,.int .i64 v1,a1,b1,.int .i64 p1]) (c:=a1) (by simp)
  have e2:dpEx (absEx (.agg [.int .i64 k1,.str s1,.str r1,.int .i64 v1,a1,b1,.int .i64 p1]))=1+max (dpPts (((elsOf b1).drop 0).map absPt)) (dpExs (((elsOf a1).drop 0).map absEx)):=by simp only[absEx,dpEx,absPtA_map,absExA_map,List.drop_zero]
  rw[e2] at hQ
  refine Br_iff.2 ⟨λq=>?_,λq=>?_⟩
  ·have:(l:Int)=0:=by simpa using q
   rw[decide_eq_true (by omega)] at hQ
   exact hQ
  ·have:¬(l:Int)=0:=by simpa using q
   obtain⟨l,rfl⟩:∃m,l=m+1:=⟨l-1,by omega⟩
   have hw:IntKind.i64.wrap (((l+1:Nat):Int)-1)=(l:Int):=by rw[wrap_id (by omega) (by omega)];omega
   rw[show decide (l+1<1+max (dpPts (((elsOf b1).drop 0).map absPt)) (dpExs (((elsOf a1).drop 0).map absEx)))=decide (l<max (dpPts (((elsOf b1).drop 0).map absPt)) (dpExs (((elsOf a1).drop 0).map absEx))) from decide_eq_decide.2 (by omega)] at hQ
   have args:Qf (.val (.d (.bool (decide (l<dpExs (((elsOf a1).drop 0).map absEx)))))) g→L115_9 ((l+1:Nat):Int) 0 (.agg [.int .i64 k1,.str s1,.str r1,.int .i64 v1,a1,b1,.int .i64 p1]) g Qf:=by
    refine loopUp (len:=(elsOf a1).length) (λi=>Qf (.val (.d (.bool (decide (l<dpExs (((elsOf a1).drop i).map absEx)))))) g→L115_9 ((l+1:Nat):Int) (i:Int) (.agg [.int .i64 k1,.str s1,.str r1,.int .i64 v1,a1,b1,.int .i64 p1]) g Qf) ?_ ?_ 0 (Nat.zero_le _)
    ·intro hQ
     refine w115_9 ?_
     rw[show(fld (Dat.agg [.int .i64 k1,.str s1,.str r1,.int .i64 v1,a1,b1,.int .i64 p1]) 4)=a1 from rfl,Br_ge]
     rw[List.drop_length] at hQ
     exact(show decide (l<dpExs (([]:List Dat).map absEx))=false from decide_eq_false (by simp[dpExs]))▸hQ
    ·intro i hi ih hQ
     refine w115_9 ?_
     rw[show(fld (Dat.agg [.int .i64 k1,.str s1,.str r1,.int .i64 v1,a1,b1,.int .i64 p1]) 4)=a1 from rfl,Br_lt hi,getE_nat hi]
     refine⟨inB hi,?_⟩
     have hsz:=sizeOf_el hi
     rw[hw]
     refine deepExpr_ok k _ g l (by omega) (ex.2 _ (List.getElem_mem hi)) (by omega) _ ⟨_,rfl,Br_iff.2 ⟨λq=>?_,λq=>?_⟩⟩
     ·have q:=of_decide_eq_true q
      rw[dpExs_drop hi,decide_eq_true (by omega)] at hQ
      exact hQ
     ·have q:=of_decide_eq_false q
      rw[wrap_nat (by omega)]
      refine ih ?_
      rw[dpExs_drop hi] at hQ
      exact(show decide (l<max (dpEx (absEx (elsOf a1)[i])) (dpExs (((elsOf a1).drop (i+1)).map absEx)))=decide (l<dpExs (((elsOf a1).drop (i+1)).map absEx)) from decide_eq_decide.2 (by omega))▸hQ
   refine loopUp (len:=(elsOf b1).length) (λi=>Qf (.val (.d (.bool (decide (l<max (dpPts (((elsOf b1).drop i).map absPt)) (dpExs (((elsOf a1).drop 0).map absEx))))))) g→L115_4 ((l+1:Nat):Int) (i:Int) (.agg [.int .i64 k1,.str s1,.str r1,.int .i64 v1,a1,b1,.int .i64 p1]) g Qf) ?_ ?_ 0 (Nat.zero_le _) hQ
   ·intro hQ
    refine w115_4 ?_
    rw[show(fld (Dat.agg [.int .i64 k1,.str s1,.str r1,.int .i64 v1,a1,b1,.int .i64 p1]) 5)=b1 from rfl,Br_ge]
    rw[List.drop_length] at hQ
    refine args ?_
    exact(show decide (l<max (dpPts (([]:List Dat).map absPt)) (dpExs (((elsOf a1).drop 0).map absEx)))=decide (l<dpExs (((elsOf a1).drop 0).map absEx)) from decide_eq_decide.2 (by simp[dpPts]))▸hQ
   ·intro i hi ih hQ
    refine w115_4 ?_
    rw[show(fld (Dat.agg [.int .i64 k1,.str s1,.str r1,.int .i64 v1,a1,b1,.int .i64 p1]) 5)=b1 from rfl,Br_lt hi,getE_nat hi]
    refine⟨inB hi,?_⟩
    rw[hw]
    refine deepPat_ok _ _ g l (Nat.lt_succ_self _) (eu.2 _ (List.getElem_mem hi)) (by omega) _ ⟨_,rfl,Br_iff.2 ⟨λq=>?_,λq=>?_⟩⟩
    ·have q:=of_decide_eq_true q
     rw[dpPts_drop hi,decide_eq_true (by omega)] at hQ
     exact hQ
    ·have q:=of_decide_eq_false q
     rw[wrap_nat (by omega)]
     refine ih ?_
     rw[dpPts_drop hi] at hQ
     exact(show decide (l<max (max (dpPt (absPt (elsOf b1)[i])) (dpPts (((elsOf b1).drop (i+1)).map absPt))) (dpExs (((elsOf a1).drop 0).map absEx)))=decide (l<max (dpPts (((elsOf b1).drop (i+1)).map absPt)) (dpExs (((elsOf a1).drop 0).map absEx))) from decide_eq_decide.2 (by omega))▸hQ
end Go.Proofs.YtgmapdcdmomioaaGreatDoor.Pa
