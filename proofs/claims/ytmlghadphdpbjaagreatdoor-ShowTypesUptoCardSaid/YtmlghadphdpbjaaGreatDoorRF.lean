/- What functions of the program do, printed by wip/tools/sx/sx.py. How many expressions and patterns there are: the program's and the document's answers. What is not too large: not many nodes, not deep. A program that is not too large: its types are not. What functions of the program do, printed by wip/tools/sx/sx.py. How deep: the program's numbers, the document's tests. -/
import Derived.Test.YtmlghadphdpbjaaGreatDoorRD
set_option linter.all false
set_option autoImplicit false
set_option maxRecDepth 100000
namespace Go.Proofs.YtmlghadphdpbjaaGreatDoor.Pa
open Go Go.Proofs.YtmlghadphdpbjaaGreatDoor.Am
def L161_3(n1:Int)(n5:Int)(y2:Dat)(g:Glob)(Qf:OGP):Prop:=CutP TT Tryz.f161 [1,1,0,1,0] Qf (mkC TT 161 Tryz.f161 2 [(1,.v 3 (.int .i64 n1)),(2,.loc 2 0 0),(5,.v 3 (.int .i64 n5))] [(2,.whole 94 y2)] g)
def lo161:List CutI:=[⟨3,[(1,.keep),(2,.keep),(5,.keep)],[(2,.whole 94)]⟩]
theorem w161{x0:Dat}{n1:Int}{g:Glob}{Qf:OGP}(h0:HasTy TT 94 x0)
 (h:L161_3 (IntKind.i64.wrap (n1-1)) 0 x0 g Qf):
 EvF TT 161 [x0,.int .i64 n1] g Qf:=
 sx_fun (rk:=rk) (fn:=Tryz.f161) (loops:=lo161) (joins:=[]) (n:=100000) (args:=[(94,x0),(3,.int .i64 n1)]) rfl rfl rfl rfl ⟨h0,tyInt rfl,trivial⟩ (by kernel_rfl) h
theorem w161_3{n1:Int}{n5:Int}{y2:Dat}{g:Glob}{Qf:OGP}
 (h:Br (decide (n5<(↑(elsOf (fld y2 3)).length:Int))) (Br (decide (0≤n1)) (InB n5 (elsOf (fld y2 3)).length∧EvF TT 161 [getE (elsOf (fld y2 3)) n5,.int .i64 n1] g (KQ Qf λv g'=>∃n,v=.d (.int .i64 n)∧L161_3 n (IntKind.i64.wrap (n5+1)) y2 g' Qf)) (Qf (.val (.d (.int .i64 n1))) g)) (Qf (.val (.d (.int .i64 n1))) g)):
 L161_3 n1 n5 y2 g Qf:=sx_cut (rk:=rk) (loops:=lo161) (joins:=[]) (n:=100000) (by kernel_rfl) h
def L131_3(n1:Int)(n5:Int)(y2:Dat)(g:Glob)(Qf:OGP):Prop:=CutP TT Tryz.f131 [1,1,0,1,0] Qf (mkC TT 131 Tryz.f131 2 [(1,.v 3 (.int .i64 n1)),(2,.loc 2 0 0),(5,.v 3 (.int .i64 n5))] [(2,.whole 25 y2)] g)
def L131_7(n1:Int)(n6:Int)(y2:Dat)(g:Glob)(Qf:OGP):Prop:=CutP TT Tryz.f131 [1,1,1,0,1,0] Qf (mkC TT 131 Tryz.f131 2 [(1,.v 3 (.int .i64 n1)),(2,.loc 2 0 0),(6,.v 3 (.int .i64 n6))] [(2,.whole 25 y2)] g)
def lo131:List CutI:=[⟨3,[(1,.keep),(2,.keep),(5,.keep)],[(2,.whole 25)]⟩,⟨7,[(1,.keep),(2,.keep),(6,.keep)],[(2,.whole 25)]⟩]
theorem w131{x0:Dat}{n1:Int}{g:Glob}{Qf:OGP}(h0:HasTy TT 25 x0)
 (h:L131_3 (IntKind.i64.wrap (n1-1)) 0 x0 g Qf):
 EvF TT 131 [x0,.int .i64 n1] g Qf:=
 sx_fun (rk:=rk) (fn:=Tryz.f131) (loops:=lo131) (joins:=[]) (n:=100000) (args:=[(25,x0),(3,.int .i64 n1)]) rfl rfl rfl rfl ⟨h0,tyInt rfl,trivial⟩ (by kernel_rfl) h
theorem w131_3{n1:Int}{n5:Int}{y2:Dat}{g:Glob}{Qf:OGP}
 (h:Br (decide (n5<(↑(elsOf (fld y2 5)).length:Int))) (Br (decide (0≤n1)) (InB n5 (elsOf (fld y2 5)).length∧EvF TT 161 [getE (elsOf (fld y2 5)) n5,.int .i64 n1] g (KQ Qf λv g'=>∃n,v=.d (.int .i64 n)∧L131_3 n (IntKind.i64.wrap (n5+1)) y2 g' Qf)) (L131_7 n1 0 y2 g Qf)) (L131_7 n1 0 y2 g Qf)):
 L131_3 n1 n5 y2 g Qf:=sx_cut (rk:=rk) (loops:=lo131) (joins:=[]) (n:=100000) (by kernel_rfl) h
theorem w131_7{n1:Int}{n6:Int}{y2:Dat}{g:Glob}{Qf:OGP}
 (h:Br (decide (n6<(↑(elsOf (fld y2 4)).length:Int))) (Br (decide (0≤n1)) (InB n6 (elsOf (fld y2 4)).length∧EvF TT 131 [getE (elsOf (fld y2 4)) n6,.int .i64 n1] g (KQ Qf λv g'=>∃n,v=.d (.int .i64 n)∧L131_7 n (IntKind.i64.wrap (n6+1)) y2 g' Qf)) (Qf (.val (.d (.int .i64 n1))) g)) (Qf (.val (.d (.int .i64 n1))) g)):
 L131_7 n1 n6 y2 g Qf:=sx_cut (rk:=rk) (loops:=lo131) (joins:=[]) (n:=100000) (by kernel_rfl) h
def lo81:List CutI:=[]
theorem w81{x0:Dat}{g:Glob}{Qf:OGP}(h0:HasTy TT 44 x0)
 (h:EvF TT 131 [sub x0 1 7,.int .i64 2048] g (KQ Qf λv g'=>∃n,v=.d (.int .i64 n)∧Qf (.val (.d (.int .i64 (IntKind.i64.wrap (2048-maxS true (-1) n))))) g')):
 EvF TT 81 [x0] g Qf:=
 sx_fun (rk:=rk) (fn:=Tryz.f81) (loops:=lo81) (joins:=[]) (n:=100000) (args:=[(44,x0)]) rfl rfl rfl rfl ⟨h0,trivial⟩ (by kernel_rfl) h
end Go.Proofs.YtmlghadphdpbjaaGreatDoor.Pa
namespace Go.Proofs.YtmlghadphdpbjaaGreatDoor.Pa
open Go Go.Proofs.YtmlghadphdpbjaaGreatDoor.Am
mutual
def szPt:Pt→Nat
 |.mk _ _ _ a _=>1+szPts a
def szPts:List Pt→Nat
 |[]=>0
 |x::xs=>szPt x+szPts xs
end
mutual
def szEx:Ex'→Nat
 |.mk _ _ _ _ a b _=>1+szPts b+szExs a
def szExs:List Ex'→Nat
 |[]=>0
 |x::xs=>szEx x+szExs xs
end
theorem szPts_drop{xs:List Dat}{i:Nat}(hi:i<xs.length):szPts ((xs.drop i).map absPt)=szPt (absPt xs[i])+szPts ((xs.drop (i+1)).map absPt):=by
 rw[List.drop_eq_getElem_cons hi];rfl
theorem szExs_drop{xs:List Dat}{i:Nat}(hi:i<xs.length):szExs ((xs.drop i).map absEx)=szEx (absEx xs[i])+szExs ((xs.drop (i+1)).map absEx):=by
 rw[List.drop_eq_getElem_cons hi];rfl
def lft(n:Int)(s:Nat):Int:=if (s:Int)≤n then n-s else -1
theorem lft_add(n:Int)(a b:Nat):lft n (a+b)=lft (lft n a) b:=by
 unfold lft
 repeat' split
 all_goals omega
theorem lft_lt{n:Int}(s:Nat)(h:n<0)(h1:-1≤n):lft n s=n:=by
 unfold lft
 split<;>omega
theorem lft_rng{n:Int}(s:Nat)(h:n≤2048):-1≤lft n s∧lft n s≤2048:=by
 unfold lft
 split<;>omega
theorem patSized_ok:∀(k:Nat) (x:Dat) (g:Glob) (n1:Int),SizeOf.sizeOf x<k→HasTy TT 94 x→0≤n1→n1≤2048→∀(Qf:OGP),Qf (.val (.d (.int .i64 (lft n1 (szPt (absPt x)))))) g→EvF TT 161 [x,.int .i64 n1] g Qf
 |0,x,g,n1,hk,_,_,_=>by omega
 |k+1,x,g,n1,hk,hx,h0,h1=>by
  intro Qf hQ
  refine w161 hx ?_
  obtain⟨k1,s1,v1,a1,p1,rfl,hs1,t1⟩:=pat_ty hx
  have ex:=t1.els undPats
  have exl:=ex.1.1
  have hc:=sizeOf_cell (cs:=[.int .i64 k1,.str s1,.int .i64 v1,a1,.int .i64 p1]) (c:=a1) (by simp)
  rw[wrap_id (by omega) (by omega)]
  have hz:lft n1 (szPt (absPt (.agg [.int .i64 k1,.str s1,.int .i64 v1,a1,.int .i64 p1])))=lft (n1-1) (szPts (((elsOf a1).drop 0).map absPt)):=by
   simp only[absPt,szPt,absPtA_map,List.drop_zero]
   rw[lft_add]
   congr 1
   unfold lft
   split<;>omega
  rw[hz] at hQ
  refine loopUp (len:=(elsOf a1).length) (λi=>∀n:Int,-1≤n→n≤2048→Qf (.val (.d (.int .i64 (lft n (szPts (((elsOf a1).drop i).map absPt)))))) g→L161_3 n (i:Int) (.agg [.int .i64 k1,.str s1,.int .i64 v1,a1,.int .i64 p1]) g Qf) ?_ ?_ 0 (Nat.zero_le _) (n1-1) (by omega) (by omega) hQ
  ·intro n h0 h1 hQ
   refine w161_3 ?_
   rw[show(fld (Dat.agg [.int .i64 k1,.str s1,.int .i64 v1,a1,.int .i64 p1]) 3)=a1 from rfl,Br_ge]
   rw[List.drop_length,show lft n (szPts (([]:List Dat).map absPt))=n from by simp only[List.map_nil,szPts,lft];split<;>omega] at hQ
   exact hQ
  ·intro i hi ih n h0 h1 hQ
   refine w161_3 ?_
   rw[show(fld (Dat.agg [.int .i64 k1,.str s1,.int .i64 v1,a1,.int .i64 p1]) 3)=a1 from rfl,Br_lt hi,getE_nat hi]
   refine Br_iff.2 ⟨λq=>⟨inB hi,?_⟩,λq=>?_⟩
   ·have hsz:=sizeOf_el hi
    refine patSized_ok k _ g _ (by omega) (ex.2 _ (List.getElem_mem hi)) (of_decide_eq_true q) h1 _ ⟨_,rfl,?_⟩
    rw[wrap_nat (by omega)]
    refine ih _ (lft_rng _ h1).1 (lft_rng _ h1).2 ?_
    rw[←lft_add,←szPts_drop hi]
    exact hQ
   ·rw[lft_lt _ (by have:=of_decide_eq_false q;omega) h0] at hQ
    exact hQ
theorem sized_ok:∀(k:Nat) (x:Dat) (g:Glob) (n1:Int),SizeOf.sizeOf x<k→HasTy TT 25 x→0≤n1→n1≤2048→∀(Qf:OGP),Qf (.val (.d (.int .i64 (lft n1 (szEx (absEx x)))))) g→EvF TT 131 [x,.int .i64 n1] g Qf
 |0,x,g,n1,hk,_,_,_=>by omega
 |k+1,x,g,n1,hk,hx,h0,h1=>by
  intro Qf hQ
  refine w131 hx ?_
  obtain⟨k1,s1,r1,v1,a1,b1,p1,rfl,hs1,hr1,t1,u1⟩:=expr_ty hx
  have ex:=t1.els undExprs
  have exl:=ex.1.1
  have eu:=u1.els undPats
  have eul:=eu.1.1
  have hc:=sizeOf_cell (cs:=[.int .i64 k1,.str s1,.str r1,.int .i64 v1,a1,b1,.int .i64 p1]) (c:=a1) (by simp)
  rw[wrap_id (by omega) (by omega)]
  have hz:lft n1 (szEx (absEx (.agg [.int .i64 k1,.str s1,.str r1,.int .i64 v1,a1,b1,.int .i64 p1])))=lft (lft (n1-1) (szPts (((elsOf b1).drop 0).map absPt))) (szExs (((elsOf a1).drop 0).map absEx)):=by
   simp only[absEx,szEx,absPtA_map,absExA_map,List.drop_zero]
   rw[lft_add,lft_add]
   congr 2
   unfold lft
   split<;>omega
  rw[hz] at hQ
  have args:∀n:Int,-1≤n→n≤2048→Qf (.val (.d (.int .i64 (lft n (szExs (((elsOf a1).drop 0).map absEx)))))) g→L131_7 n 0 (.agg [.int .i64 k1,.str s1,.str r1,.int .i64 v1,a1,b1,.int .i64 p1]) g Qf:=by
   refine loopUp (len:=(elsOf a1).length) (λi=>∀n:Int,-1≤n→n≤2048→Qf (.val (.d (.int .i64 (lft n (szExs (((elsOf a1).drop i).map absEx)))))) g→L131_7 n (i:Int) (.agg [.int .i64 k1,.str s1,.str r1,.int .i64 v1,a1,b1,.int .i64 p1]) g Qf) ?_ ?_ 0 (Nat.zero_le _)
   ·intro n h0 h1 hQ
    refine w131_7 ?_
    rw[show(fld (Dat.agg [.int .i64 k1,.str s1,.str r1,.int .i64 v1,a1,b1,.int .i64 p1]) 4)=a1 from rfl,Br_ge]
    rw[List.drop_length,show lft n (szExs (([]:List Dat).map absEx))=n from by simp only[List.map_nil,szExs,lft];split<;>omega] at hQ
    exact hQ
   ·intro i hi ih n h0 h1 hQ
    refine w131_7 ?_
    rw[show(fld (Dat.agg [.int .i64 k1,.str s1,.str r1,.int .i64 v1,a1,b1,.int .i64 p1]) 4)=a1 from rfl,Br_lt hi,getE_nat hi]
    refine Br_iff.2 ⟨λq=>⟨inB hi,?_⟩,λq=>?_⟩
    ·have hsz:=sizeOf_el hi
     refine sized_ok k _ g _ (by omega) (ex.2 _ (List.getElem_mem hi)) (of_decide_eq_true q) h1 _ ⟨_,rfl,?_⟩
     rw[wrap_nat (by omega)]
     refine ih _ (lft_rng _ h1).1 (lft_rng _ h1).2 ?_
     rw[←lft_add,←szExs_drop hi]
     exact hQ
    ·rw[lft_lt _ (by have:=of_decide_eq_false q;omega) h0] at hQ
     exact hQ
  refine loopUp (len:=(elsOf b1).length) (λi=>∀n:Int,-1≤n→n≤2048→Qf (.val (.d (.int .i64 (lft (lft n (szPts (((elsOf b1).drop i).map absPt))) (szExs (((elsOf a1).drop 0).map absEx)))))) g→L131_3 n (i:Int) (.agg [.int .i64 k1,.str s1,.str r1,.int .i64 v1,a1,b1,.int .i64 p1]) g Qf) ?_ ?_ 0 (Nat.zero_le _) (n1-1) (by omega) (by omega) hQ
  ·intro n h0 h1 hQ
   refine w131_3 ?_
   rw[show(fld (Dat.agg [.int .i64 k1,.str s1,.str r1,.int .i64 v1,a1,b1,.int .i64 p1]) 5)=b1 from rfl,Br_ge]
   rw[List.drop_length,show lft n (szPts (([]:List Dat).map absPt))=n from by simp only[List.map_nil,szPts,lft];split<;>omega] at hQ
   exact args n h0 h1 hQ
  ·intro i hi ih n h0 h1 hQ
   refine w131_3 ?_
   rw[show(fld (Dat.agg [.int .i64 k1,.str s1,.str r1,.int .i64 v1,a1,b1,.int .i64 p1]) 5)=b1 from rfl,Br_lt hi,getE_nat hi]
   refine Br_iff.2 ⟨λq=>⟨inB hi,?_⟩,λq=>?_⟩
   ·refine patSized_ok _ _ g _ (Nat.lt_succ_self _) (eu.2 _ (List.getElem_mem hi)) (of_decide_eq_true q) h1 _ ⟨_,rfl,?_⟩
    rw[wrap_nat (by omega)]
    refine ih _ (lft_rng _ h1).1 (lft_rng _ h1).2 ?_
    rw[←lft_add n,←szPts_drop hi]
    exact hQ
   ·rw[lft_lt (szPts (((elsOf b1).drop i).map absPt)) (by have:=of_decide_eq_false q;omega) h0] at hQ
    exact args n h0 h1 hQ
def upto(n:Int)(s:Nat):Int:=if n+s≤2048 then n+s else 2049
theorem parseSize_ok(x:Dat)(g:Glob)(hx:HasTy TT 44 x)(Qf:OGP)(hQ:Qf (.val (.d (.int .i64 (upto 0 (szEx (absPg x).e))))) g):EvF TT 81 [x] g Qf:=by
 refine w81 hx ?_
 obtain⟨d1,k1,s1,r1,n1,a1,b1,p1,rfl,hd1,he1⟩:=prog_ty hx
 refine sized_ok _ _ g _ (Nat.lt_succ_self _) he1 (by omega) (by omega) _ ⟨_,rfl,?_⟩
 have e:IntKind.i64.wrap (2048-maxS true (-1) (lft 2048 (szEx (absEx (.agg [.int .i64 k1,.str s1,.str r1,.int .i64 n1,a1,b1,.int .i64 p1])))))=upto 0 (szEx (absEx (.agg [.int .i64 k1,.str s1,.str r1,.int .i64 n1,a1,b1,.int .i64 p1]))):=by
  have h:=lft_rng (n:=2048) (szEx (absEx (.agg [.int .i64 k1,.str s1,.str r1,.int .i64 n1,a1,b1,.int .i64 p1]))) (by omega)
  have h2:maxS true (-1) (lft 2048 (szEx (absEx (.agg [.int .i64 k1,.str s1,.str r1,.int .i64 n1,a1,b1,.int .i64 p1]))))=lft 2048 (szEx (absEx (.agg [.int .i64 k1,.str s1,.str r1,.int .i64 n1,a1,b1,.int .i64 p1]))):=by
   simp only[maxS,if_true]
   split<;>omega
  rw[h2,wrap_id (by omega) (by omega)]
  unfold lft upto
  repeat' split
  all_goals omega
 show Qf (.val (.d (.int .i64 (IntKind.i64.wrap (2048-maxS true (-1) (lft 2048 (szEx (absEx (.agg [.int .i64 k1,.str s1,.str r1,.int .i64 n1,a1,b1,.int .i64 p1]))))))))) g
 rw[e]
 exact hQ
end Go.Proofs.YtmlghadphdpbjaaGreatDoor.Pa
namespace Go.Proofs.YtmlghadphdpbjaaGreatDoor.Pa
open Go Go.Proofs.YtmlghadphdpbjaaGreatDoor.Am
mutual
def ndTy:Ty→Nat
 |.mk _ _ _ a=>1+ndTys a
def ndTys:List Ty→Nat
 |[]=>0
 |x::xs=>ndTy x+ndTys xs
end
mutual
def dpTy:Ty→Nat
 |.mk _ _ _ a=>1+dpTys a
def dpTys:List Ty→Nat
 |[]=>0
 |x::xs=>max (dpTy x) (dpTys xs)
end
mutual
def dpPt:Pt→Nat
 |.mk _ _ _ a _=>1+dpPts a
def dpPts:List Pt→Nat
 |[]=>0
 |x::xs=>max (dpPt x) (dpPts xs)
end
mutual
def dpEx:Ex'→Nat
 |.mk _ _ _ _ a b _=>1+max (dpPts b) (dpExs a)
def dpExs:List Ex'→Nat
 |[]=>0
 |x::xs=>max (dpEx x) (dpExs xs)
end
theorem ndTys_drop{xs:List Dat}{i:Nat}(hi:i<xs.length):ndTys ((xs.drop i).map absTy)=ndTy (absTy xs[i])+ndTys ((xs.drop (i+1)).map absTy):=by
 rw[List.drop_eq_getElem_cons hi];rfl
theorem dpTys_drop{xs:List Dat}{i:Nat}(hi:i<xs.length):dpTys ((xs.drop i).map absTy)=max (dpTy (absTy xs[i])) (dpTys ((xs.drop (i+1)).map absTy)):=by
 rw[List.drop_eq_getElem_cons hi];rfl
theorem dpPts_drop{xs:List Dat}{i:Nat}(hi:i<xs.length):dpPts ((xs.drop i).map absPt)=max (dpPt (absPt xs[i])) (dpPts ((xs.drop (i+1)).map absPt)):=by
 rw[List.drop_eq_getElem_cons hi];rfl
theorem dpExs_drop{xs:List Dat}{i:Nat}(hi:i<xs.length):dpExs ((xs.drop i).map absEx)=max (dpEx (absEx xs[i])) (dpExs ((xs.drop (i+1)).map absEx)):=by
 rw[List.drop_eq_getElem_cons hi];rfl
theorem tdiv10(n:Nat):(n:Int).tdiv 10=((n/10:Nat):Int):=rfl
theorem weighType_all:∀(k:Nat) (x:Dat) (g:Glob) (d n:Int),SizeOf.sizeOf x<k→HasTy TT 28 x→0≤d→d≤601→0≤n→n≤20000→
 ∀(Qf:OGP),(∀r:Int,-1≤r→r≤20000→(0≤r→n+ndTy (absTy x)≤r∧d+dpTy (absTy x)≤601)→Qf (.val (.d (.int .i64 r))) g)→EvF TT 25 [x,.int .i64 d,.int .i64 n] g Qf
 |0,x,g,d,n,hk,_,_,_,_,_=>by omega
 |k+1,x,g,d,n,hk,hx,d0,d1,h0,h1=>by
  intro Qf hQ
  obtain⟨k1,s1,v1,a1,rfl,hs1,t1⟩:=type_ty hx
  have ex:=t1.els undTypes
  have exl:=ex.1.1
  have hc:=sizeOf_cell (cs:=[.int .i64 k1,.str s1,.int .i64 v1,a1]) (c:=a1) (by simp)
  have hw:IntKind.i64.wrap (n+IntKind.i64.wrap (1+IntKind.i64.wrap ((↑(elsOf a1).length:Int).tdiv 10)))=n+(1+(((elsOf a1).length/10:Nat):Int)):=by
   rw[tdiv10,wrap_id (n:=(((elsOf a1).length/10:Nat):Int)) (by omega) (by omega),wrap_id (n:=1+(((elsOf a1).length/10:Nat):Int)) (by omega) (by omega),wrap_id (by omega) (by omega)]
  refine w25 hx ⟨neZ (by decide),?_⟩
  rw[show(fld (Dat.agg [.int .i64 k1,.str s1,.int .i64 v1,a1]) 3)=a1 from rfl,hw]
  refine Br_iff.2 ⟨λ_=>hQ _ (by omega) (by omega) (λh=>by omega),λq1=>Br_iff.2 ⟨λ_=>hQ _ (by omega) (by omega) (λh=>by omega),λq2=>?_⟩⟩
  have q1:=of_decide_eq_false q1
  have q2:=of_decide_eq_false q2
  have e1:ndTy (absTy (.agg [.int .i64 k1,.str s1,.int .i64 v1,a1]))=1+ndTys (((elsOf a1).drop 0).map absTy):=by simp only[absTy,ndTy,absTyA_map,List.drop_zero]
  have e2:dpTy (absTy (.agg [.int .i64 k1,.str s1,.int .i64 v1,a1]))=1+dpTys (((elsOf a1).drop 0).map absTy):=by simp only[absTy,dpTy,absTyA_map,List.drop_zero]
  rw[e1,e2] at hQ
  refine loopUp (len:=(elsOf a1).length) (λi=>∀m:Int,-1≤m→m≤20000→(∀r:Int,-1≤r→r≤20000→(0≤r→0≤m∧m+ndTys (((elsOf a1).drop i).map absTy)≤r∧d+(1+dpTys (((elsOf a1).drop i).map absTy))≤601)→Qf (.val (.d (.int .i64 r))) g)→L25_5 d m (i:Int) (.agg [.int .i64 k1,.str s1,.int .i64 v1,a1]) g Qf) ?_ ?_ 0 (Nat.zero_le _) _ (by omega) (by omega) (λr r0 r1 h=>hQ r r0 r1 λhr=>⟨by have:=(h hr).2.1;omega,by have:=(h hr).2.2;omega⟩)
  ·intro m m0 m1 hQ
   refine w25_5 ?_
   rw[show(fld (Dat.agg [.int .i64 k1,.str s1,.int .i64 v1,a1]) 3)=a1 from rfl,Br_ge]
   exact hQ _ m0 m1 λhr=>by rw[List.drop_length];simp only[List.map_nil,ndTys,dpTys];omega
  ·intro i hi ih m m0 m1 hQ
   refine w25_5 ?_
   rw[show(fld (Dat.agg [.int .i64 k1,.str s1,.int .i64 v1,a1]) 3)=a1 from rfl,Br_lt hi,getE_nat hi]
   refine Br_iff.2 ⟨λq=>⟨inB hi,?_⟩,λq=>hQ _ m0 m1 λhr=>by have:=of_decide_eq_false q;omega⟩
   have hsz:=sizeOf_el hi
   rw[wrap_id (by omega) (by omega)]
   refine weighType_all k _ g _ _ (by omega) (ex.2 _ (List.getElem_mem hi)) (by omega) (by omega) (of_decide_eq_true q) m1 _ λr r0 r1 hr=>⟨_,rfl,?_⟩
   rw[wrap_nat (by omega)]
   refine ih r r0 r1 λr' s0 s1 hr'=>hQ r' s0 s1 λh'=>?_
   rw[ndTys_drop hi,dpTys_drop hi]
   have a:=hr' h'
   have b:=hr a.1
   have c:=of_decide_eq_true q
   omega
end Go.Proofs.YtmlghadphdpbjaaGreatDoor.Pa
namespace Go.Proofs.YtmlghadphdpbjaaGreatDoor.Pa
open Go Go.Proofs.YtmlghadphdpbjaaGreatDoor.Am
end Go.Proofs.YtmlghadphdpbjaaGreatDoor.Pa
namespace Go.Proofs.YtmlghadphdpbjaaGreatDoor.Pa
open Go Go.Proofs.YtmlghadphdpbjaaGreatDoor.Am
def L84_3(n3:Int)(x7:Dat)(n8:Int)(n9:Int)(g:Glob)(Qf:OGP):Prop:=CutP TT Tryz.f84 [1,1,0,1,0] Qf (mkC TT 84 Tryz.f84 1 [(3,.v 3 (.int .i64 n3)),(7,.v 26 (x7)),(8,.v 3 (.int .i64 n8)),(9,.v 3 (.int .i64 n9))] [] g)
def lo84:List CutI:=[⟨3,[(3,.keep),(7,.keep),(8,.keep),(9,.keep)],[]⟩]
theorem w84{x0:Dat}{g:Glob}{Qf:OGP}(h0:HasTy TT 28 x0)
 (h:L84_3 0 (fld x0 3) (↑(elsOf (fld x0 3)).length:Int) 0 g Qf):
 EvF TT 84 [x0] g Qf:=
 sx_fun (rk:=rk) (fn:=Tryz.f84) (loops:=lo84) (joins:=[]) (n:=100000) (args:=[(28,x0)]) rfl rfl rfl rfl ⟨h0,trivial⟩ (by kernel_rfl) h
theorem w84_3{n3:Int}{x7:Dat}{n8:Int}{n9:Int}{g:Glob}{Qf:OGP}
 (h:Br (decide (n9<n8)) (InB n9 (elsOf x7).length∧EvF TT 84 [getE (elsOf x7) n9] g (KQ Qf λv g'=>∃n,v=.d (.int .i64 n)∧L84_3 (maxS true n3 n) x7 n8 (IntKind.i64.wrap (n9+1)) g' Qf)) (Qf (.val (.d (.int .i64 (IntKind.i64.wrap (n3+1))))) g)):
 L84_3 n3 x7 n8 n9 g Qf:=sx_cut (rk:=rk) (loops:=lo84) (joins:=[]) (n:=100000) (by kernel_rfl) h
def L135_3(n3:Int)(x7:Dat)(n8:Int)(n9:Int)(g:Glob)(Qf:OGP):Prop:=CutP TT Tryz.f135 [1,1,0,1,0] Qf (mkC TT 135 Tryz.f135 1 [(3,.v 3 (.int .i64 n3)),(7,.v 23 (x7)),(8,.v 3 (.int .i64 n8)),(9,.v 3 (.int .i64 n9))] [] g)
def lo135:List CutI:=[⟨3,[(3,.keep),(7,.keep),(8,.keep),(9,.keep)],[]⟩]
theorem w135{x0:Dat}{g:Glob}{Qf:OGP}(h0:HasTy TT 94 x0)
 (h:L135_3 0 (fld x0 3) (↑(elsOf (fld x0 3)).length:Int) 0 g Qf):
 EvF TT 135 [x0] g Qf:=
 sx_fun (rk:=rk) (fn:=Tryz.f135) (loops:=lo135) (joins:=[]) (n:=100000) (args:=[(94,x0)]) rfl rfl rfl rfl ⟨h0,trivial⟩ (by kernel_rfl) h
theorem w135_3{n3:Int}{x7:Dat}{n8:Int}{n9:Int}{g:Glob}{Qf:OGP}
 (h:Br (decide (n9<n8)) (InB n9 (elsOf x7).length∧EvF TT 135 [getE (elsOf x7) n9] g (KQ Qf λv g'=>∃n,v=.d (.int .i64 n)∧L135_3 (maxS true n3 n) x7 n8 (IntKind.i64.wrap (n9+1)) g' Qf)) (Qf (.val (.d (.int .i64 (IntKind.i64.wrap (n3+1))))) g)):
 L135_3 n3 x7 n8 n9 g Qf:=sx_cut (rk:=rk) (loops:=lo135) (joins:=[]) (n:=100000) (by kernel_rfl) h
def L83_3(n3:Int)(x9:Dat)(n10:Int)(n11:Int)(y1:Dat)(g:Glob)(Qf:OGP):Prop:=CutP TT Tryz.f83 [1,1,0,1,0] Qf (mkC TT 83 Tryz.f83 1 [(1,.loc 1 0 0),(3,.v 3 (.int .i64 n3)),(9,.v 23 (x9)),(10,.v 3 (.int .i64 n10)),(11,.v 3 (.int .i64 n11))] [(1,.whole 25 y1)] g)
def L83_8(n3:Int)(x21:Dat)(n22:Int)(n23:Int)(g:Glob)(Qf:OGP):Prop:=CutP TT Tryz.f83 [1,1,1,0,1,0] Qf (mkC TT 83 Tryz.f83 1 [(3,.v 3 (.int .i64 n3)),(21,.v 22 (x21)),(22,.v 3 (.int .i64 n22)),(23,.v 3 (.int .i64 n23))] [] g)
def lo83:List CutI:=[⟨3,[(1,.keep),(3,.keep),(9,.keep),(10,.keep),(11,.keep)],[(1,.whole 25)]⟩,⟨8,[(3,.keep),(21,.keep),(22,.keep),(23,.keep)],[]⟩]
theorem w83{x0:Dat}{g:Glob}{Qf:OGP}(h0:HasTy TT 25 x0)
 (h:L83_3 0 (fld x0 5) (↑(elsOf (fld x0 5)).length:Int) 0 x0 g Qf):
 EvF TT 83 [x0] g Qf:=
 sx_fun (rk:=rk) (fn:=Tryz.f83) (loops:=lo83) (joins:=[]) (n:=100000) (args:=[(25,x0)]) rfl rfl rfl rfl ⟨h0,trivial⟩ (by kernel_rfl) h
theorem w83_3{n3:Int}{x9:Dat}{n10:Int}{n11:Int}{y1:Dat}{g:Glob}{Qf:OGP}
 (h:Br (decide (n11<n10)) (InB n11 (elsOf x9).length∧EvF TT 135 [getE (elsOf x9) n11] g (KQ Qf λv g'=>∃n,v=.d (.int .i64 n)∧L83_3 (maxS true n3 n) x9 n10 (IntKind.i64.wrap (n11+1)) y1 g' Qf)) (L83_8 n3 (fld y1 4) (↑(elsOf (fld y1 4)).length:Int) 0 g Qf)):
 L83_3 n3 x9 n10 n11 y1 g Qf:=sx_cut (rk:=rk) (loops:=lo83) (joins:=[]) (n:=100000) (by kernel_rfl) h
theorem w83_8{n3:Int}{x21:Dat}{n22:Int}{n23:Int}{g:Glob}{Qf:OGP}
 (h:Br (decide (n23<n22)) (InB n23 (elsOf x21).length∧EvF TT 83 [getE (elsOf x21) n23] g (KQ Qf λv g'=>∃n,v=.d (.int .i64 n)∧L83_8 (maxS true n3 n) x21 n22 (IntKind.i64.wrap (n23+1)) g' Qf)) (Qf (.val (.d (.int .i64 (IntKind.i64.wrap (n3+1))))) g)):
 L83_8 n3 x21 n22 n23 g Qf:=sx_cut (rk:=rk) (loops:=lo83) (joins:=[]) (n:=100000) (by kernel_rfl) h
end Go.Proofs.YtmlghadphdpbjaaGreatDoor.Pa
namespace Go.Proofs.YtmlghadphdpbjaaGreatDoor.Pa
open Go Go.Proofs.YtmlghadphdpbjaaGreatDoor.Am
theorem maxS_nat(a b:Nat):maxS true (a:Int) (b:Int)=((max a b:Nat):Int):=by
 simp only[maxS,if_true]
 split<;>omega
theorem typeDeep_ok:∀(k:Nat) (x:Dat) (g:Glob),SizeOf.sizeOf x<k→HasTy TT 28 x→dpTy (absTy x)≤20000→∀(Qf:OGP),Qf (.val (.d (.int .i64 (dpTy (absTy x):Nat)))) g→EvF TT 84 [x] g Qf
 |0,x,g,hk,_,_=>by omega
 |k+1,x,g,hk,hx,hd=>by
  intro Qf hQ
  refine w84 hx ?_
  obtain⟨k1,s1,v1,a1,rfl,hs1,t1⟩:=type_ty hx
  have ex:=t1.els undTypes
  have exl:=ex.1.1
  have hc:=sizeOf_cell (cs:=[.int .i64 k1,.str s1,.int .i64 v1,a1]) (c:=a1) (by simp)
  have e2:dpTy (absTy (.agg [.int .i64 k1,.str s1,.int .i64 v1,a1]))=1+dpTys (((elsOf a1).drop 0).map absTy):=by simp only[absTy,dpTy,absTyA_map,List.drop_zero]
  rw[e2] at hQ hd
  rw[show(fld (Dat.agg [.int .i64 k1,.str s1,.int .i64 v1,a1]) 3)=a1 from rfl]
  refine loopUp (len:=(elsOf a1).length) (λi=>∀m:Nat,1+max m (dpTys (((elsOf a1).drop i).map absTy))≤20000→Qf (.val (.d (.int .i64 ((1+max m (dpTys (((elsOf a1).drop i).map absTy)):Nat))))) g→L84_3 (m:Int) a1 ((elsOf a1).length:Int) (i:Int) g Qf) ?_ ?_ 0 (Nat.zero_le _) 0 (by omega) (by rw[Nat.zero_max];exact hQ)
  ·intro m hm hQ
   refine w84_3 ?_
   rw[Br_ge,wrap_nat (by omega)]
   rw[List.drop_length] at hQ
   simp only[List.map_nil,dpTys,Nat.max_zero] at hQ
   rw[show m+1=1+m by omega]
   exact hQ
  ·intro i hi ih m hm hQ
   refine w84_3 ?_
   rw[Br_lt hi,getE_nat hi]
   refine⟨inB hi,?_⟩
   have hsz:=sizeOf_el hi
   rw[dpTys_drop hi] at hm hQ
   refine typeDeep_ok k _ g (by omega) (ex.2 _ (List.getElem_mem hi)) (by omega) _ ⟨_,rfl,?_⟩
   rw[wrap_nat (by omega),maxS_nat]
   refine ih _ (by rw[Nat.max_assoc];exact hm) (by rw[Nat.max_assoc];exact hQ)
theorem patDeep_ok:∀(k:Nat) (x:Dat) (g:Glob),SizeOf.sizeOf x<k→HasTy TT 94 x→dpPt (absPt x)≤20000→∀(Qf:OGP),Qf (.val (.d (.int .i64 (dpPt (absPt x):Nat)))) g→EvF TT 135 [x] g Qf
 |0,x,g,hk,_,_=>by omega
 |k+1,x,g,hk,hx,hd=>by
  intro Qf hQ
  refine w135 hx ?_
  obtain⟨k1,s1,v1,a1,p1,rfl,hs1,t1⟩:=pat_ty hx
  have ex:=t1.els undPats
  have exl:=ex.1.1
  have hc:=sizeOf_cell (cs:=[.int .i64 k1,.str s1,.int .i64 v1,a1,.int .i64 p1]) (c:=a1) (by simp)
  have e2:dpPt (absPt (.agg [.int .i64 k1,.str s1,.int .i64 v1,a1,.int .i64 p1]))=1+dpPts (((elsOf a1).drop 0).map absPt):=by simp only[absPt,dpPt,absPtA_map,List.drop_zero]
  rw[e2] at hQ hd
  rw[show(fld (Dat.agg [.int .i64 k1,.str s1,.int .i64 v1,a1,.int .i64 p1]) 3)=a1 from rfl]
  refine loopUp (len:=(elsOf a1).length) (λi=>∀m:Nat,1+max m (dpPts (((elsOf a1).drop i).map absPt))≤20000→Qf (.val (.d (.int .i64 ((1+max m (dpPts (((elsOf a1).drop i).map absPt)):Nat))))) g→L135_3 (m:Int) a1 ((elsOf a1).length:Int) (i:Int) g Qf) ?_ ?_ 0 (Nat.zero_le _) 0 (by omega) (by rw[Nat.zero_max];exact hQ)
  ·intro m hm hQ
   refine w135_3 ?_
   rw[Br_ge,wrap_nat (by omega)]
   rw[List.drop_length] at hQ
   simp only[List.map_nil,dpPts,Nat.max_zero] at hQ
   rw[show m+1=1+m by omega]
   exact hQ
  ·intro i hi ih m hm hQ
   refine w135_3 ?_
   rw[Br_lt hi,getE_nat hi]
   refine⟨inB hi,?_⟩
   have hsz:=sizeOf_el hi
   rw[dpPts_drop hi] at hm hQ
   refine patDeep_ok k _ g (by omega) (ex.2 _ (List.getElem_mem hi)) (by omega) _ ⟨_,rfl,?_⟩
   rw[wrap_nat (by omega),maxS_nat]
   refine ih _ (by rw[Nat.max_assoc];exact hm) (by rw[Nat.max_assoc];exact hQ)
theorem deep_ok:∀(k:Nat) (x:Dat) (g:Glob),SizeOf.sizeOf x<k→HasTy TT 25 x→dpEx (absEx x)≤20000→∀(Qf:OGP),Qf (.val (.d (.int .i64 (dpEx (absEx x):Nat)))) g→EvF TT 83 [x] g Qf
 |0,x,g,hk,_,_=>by omega
 |k+1,x,g,hk,hx,hd=>by
  intro Qf hQ
  refine w83 hx ?_
  obtain⟨k1,s1,r1,v1,a1,b1,p1,rfl,hs1,hr1,t1,u1⟩:=expr_ty hx
  have ex:=t1.els undExprs
  have exl:=ex.1.1
  have eu:=u1.els undPats
  have eul:=eu.1.1
  have hc:=sizeOf_cell (cs:=[.int .i64 k1,.str s1,.str r1,.int .i64 v1,a1,b1,.int .i64 p1]) (c:=a1) (by simp)
  have e2:dpEx (absEx (.agg [.int .i64 k1,.str s1,.str r1,.int .i64 v1,a1,b1,.int .i64 p1]))=1+max (dpPts (((elsOf b1).drop 0).map absPt)) (dpExs (((elsOf a1).drop 0).map absEx)):=by simp only[absEx,dpEx,absPtA_map,absExA_map,List.drop_zero]
  rw[e2] at hQ hd
  rw[show(fld (Dat.agg [.int .i64 k1,.str s1,.str r1,.int .i64 v1,a1,b1,.int .i64 p1]) 5)=b1 from rfl]
  have args:∀m:Nat,1+max m (dpExs (((elsOf a1).drop 0).map absEx))≤20000→Qf (.val (.d (.int .i64 ((1+max m (dpExs (((elsOf a1).drop 0).map absEx)):Nat))))) g→L83_8 (m:Int) a1 ((elsOf a1).length:Int) 0 g Qf:=by
   refine loopUp (len:=(elsOf a1).length) (λi=>∀m:Nat,1+max m (dpExs (((elsOf a1).drop i).map absEx))≤20000→Qf (.val (.d (.int .i64 ((1+max m (dpExs (((elsOf a1).drop i).map absEx)):Nat))))) g→L83_8 (m:Int) a1 ((elsOf a1).length:Int) (i:Int) g Qf) ?_ ?_ 0 (Nat.zero_le _)
   ·intro m hm hQ
    refine w83_8 ?_
    rw[Br_ge,wrap_nat (by omega)]
    rw[List.drop_length] at hQ
    simp only[List.map_nil,dpExs,Nat.max_zero] at hQ
    rw[show m+1=1+m by omega]
    exact hQ
   ·intro i hi ih m hm hQ
    refine w83_8 ?_
    rw[Br_lt hi,getE_nat hi]
    refine⟨inB hi,?_⟩
    have hsz:=sizeOf_el hi
    rw[dpExs_drop hi] at hm hQ
    refine deep_ok k _ g (by omega) (ex.2 _ (List.getElem_mem hi)) (by omega) _ ⟨_,rfl,?_⟩
    rw[wrap_nat (by omega),maxS_nat]
    refine ih _ (by rw[Nat.max_assoc];exact hm) (by rw[Nat.max_assoc];exact hQ)
  refine loopUp (len:=(elsOf b1).length) (λi=>∀m:Nat,1+max (max m (dpPts (((elsOf b1).drop i).map absPt))) (dpExs (((elsOf a1).drop 0).map absEx))≤20000→Qf (.val (.d (.int .i64 ((1+max (max m (dpPts (((elsOf b1).drop i).map absPt))) (dpExs (((elsOf a1).drop 0).map absEx)):Nat))))) g→L83_3 (m:Int) b1 ((elsOf b1).length:Int) (i:Int) (.agg [.int .i64 k1,.str s1,.str r1,.int .i64 v1,a1,b1,.int .i64 p1]) g Qf) ?_ ?_ 0 (Nat.zero_le _) 0 (by rw[Nat.zero_max];exact hd) (by rw[Nat.zero_max];exact hQ)
  ·intro m hm hQ
   refine w83_3 ?_
   rw[Br_ge,show(fld (Dat.agg [.int .i64 k1,.str s1,.str r1,.int .i64 v1,a1,b1,.int .i64 p1]) 4)=a1 from rfl]
   rw[List.drop_length] at hQ hm
   simp only[List.map_nil,dpPts,Nat.max_zero] at hQ hm
   exact args m hm hQ
  ·intro i hi ih m hm hQ
   refine w83_3 ?_
   rw[Br_lt hi,getE_nat hi]
   refine⟨inB hi,?_⟩
   rw[dpPts_drop hi] at hm hQ
   refine patDeep_ok _ _ g (Nat.lt_succ_self _) (eu.2 _ (List.getElem_mem hi)) (by omega) _ ⟨_,rfl,?_⟩
   rw[wrap_nat (by omega),maxS_nat]
   refine ih _ (by rw[Nat.max_assoc m];exact hm) (by rw[Nat.max_assoc m];exact hQ)
end Go.Proofs.YtmlghadphdpbjaaGreatDoor.Pa
