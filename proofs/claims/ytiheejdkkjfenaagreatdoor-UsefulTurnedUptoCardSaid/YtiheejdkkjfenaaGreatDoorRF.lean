/- What functions of the program do, printed by wip/tools/sx/sx.py. How many expressions and patterns there are: the program's and the document's answers. What is not too large: not many nodes, not deep. A program that is not too large: its types are not. What functions of the program do, printed by wip/tools/sx/sx.py. How deep: the program's numbers, the document's tests. -/
import Derived.Test.YtiheejdkkjfenaaGreatDoorRD
set_option linter.all false
set_option autoImplicit false
set_option maxRecDepth 100000
namespace Go.Proofs.YtiheejdkkjfenaaGreatDoor.Pa
open Go Go.Proofs.YtiheejdkkjfenaaGreatDoor.Am
def L59_3(n1:Int)(n5:Int)(y2:Dat)(g:Glob)(Qf:OGP):Prop:=CutP TT Tryz.f59 [1,1,0,1,0] Qf (mkC TT 59 Tryz.f59 2 [(1,.v 3 (.int .i64 n1)),(2,.loc 2 0 0),(5,.v 3 (.int .i64 n5))] [(2,.whole 52 y2)] g)
def lo59:List CutI:=[⟨3,[(1,.keep),(2,.keep),(5,.keep)],[(2,.whole 52)]⟩]
theorem w59{x0:Dat}{n1:Int}{g:Glob}{Qf:OGP}(h0:HasTy TT 52 x0)
 (h:L59_3 (IntKind.i64.wrap (n1+1)) 0 x0 g Qf):
 EvF TT 59 [x0,.int .i64 n1] g Qf:=
 sx_fun (rk:=rk) (fn:=Tryz.f59) (loops:=lo59) (joins:=[]) (n:=100000) (args:=[(52,x0),(3,.int .i64 n1)]) rfl rfl rfl rfl ⟨h0,tyInt rfl,trivial⟩ (by kernel_rfl) h
theorem w59_3{n1:Int}{n5:Int}{y2:Dat}{g:Glob}{Qf:OGP}
 (h:Br (decide (n5<(↑(elsOf (fld y2 3)).length:Int))) (Br (decide (n1≤2048)) (InB n5 (elsOf (fld y2 3)).length∧EvF TT 59 [getE (elsOf (fld y2 3)) n5,.int .i64 n1] g (KQ Qf λv g'=>∃n,v=.d (.int .i64 n)∧L59_3 n (IntKind.i64.wrap (n5+1)) y2 g' Qf)) (Qf (.val (.d (.int .i64 n1))) g)) (Qf (.val (.d (.int .i64 n1))) g)):
 L59_3 n1 n5 y2 g Qf:=sx_cut (rk:=rk) (loops:=lo59) (joins:=[]) (n:=100000) (by kernel_rfl) h
def L32_3(n1:Int)(n5:Int)(y2:Dat)(g:Glob)(Qf:OGP):Prop:=CutP TT Tryz.f32 [1,1,0,1,0] Qf (mkC TT 32 Tryz.f32 2 [(1,.v 3 (.int .i64 n1)),(2,.loc 2 0 0),(5,.v 3 (.int .i64 n5))] [(2,.whole 26 y2)] g)
def L32_7(n1:Int)(n6:Int)(y2:Dat)(g:Glob)(Qf:OGP):Prop:=CutP TT Tryz.f32 [1,1,1,0,1,0] Qf (mkC TT 32 Tryz.f32 2 [(1,.v 3 (.int .i64 n1)),(2,.loc 2 0 0),(6,.v 3 (.int .i64 n6))] [(2,.whole 26 y2)] g)
def lo32:List CutI:=[⟨3,[(1,.keep),(2,.keep),(5,.keep)],[(2,.whole 26)]⟩,⟨7,[(1,.keep),(2,.keep),(6,.keep)],[(2,.whole 26)]⟩]
theorem w32{x0:Dat}{n1:Int}{g:Glob}{Qf:OGP}(h0:HasTy TT 26 x0)
 (h:L32_3 (IntKind.i64.wrap (n1+1)) 0 x0 g Qf):
 EvF TT 32 [x0,.int .i64 n1] g Qf:=
 sx_fun (rk:=rk) (fn:=Tryz.f32) (loops:=lo32) (joins:=[]) (n:=100000) (args:=[(26,x0),(3,.int .i64 n1)]) rfl rfl rfl rfl ⟨h0,tyInt rfl,trivial⟩ (by kernel_rfl) h
theorem w32_3{n1:Int}{n5:Int}{y2:Dat}{g:Glob}{Qf:OGP}
 (h:Br (decide (n5<(↑(elsOf (fld y2 5)).length:Int))) (Br (decide (n1≤2048)) (InB n5 (elsOf (fld y2 5)).length∧EvF TT 59 [getE (elsOf (fld y2 5)) n5,.int .i64 n1] g (KQ Qf λv g'=>∃n,v=.d (.int .i64 n)∧L32_3 n (IntKind.i64.wrap (n5+1)) y2 g' Qf)) (L32_7 n1 0 y2 g Qf)) (L32_7 n1 0 y2 g Qf)):
 L32_3 n1 n5 y2 g Qf:=sx_cut (rk:=rk) (loops:=lo32) (joins:=[]) (n:=100000) (by kernel_rfl) h
theorem w32_7{n1:Int}{n6:Int}{y2:Dat}{g:Glob}{Qf:OGP}
 (h:Br (decide (n6<(↑(elsOf (fld y2 4)).length:Int))) (Br (decide (n1≤2048)) (InB n6 (elsOf (fld y2 4)).length∧EvF TT 32 [getE (elsOf (fld y2 4)) n6,.int .i64 n1] g (KQ Qf λv g'=>∃n,v=.d (.int .i64 n)∧L32_7 n (IntKind.i64.wrap (n6+1)) y2 g' Qf)) (Qf (.val (.d (.int .i64 n1))) g)) (Qf (.val (.d (.int .i64 n1))) g)):
 L32_7 n1 n6 y2 g Qf:=sx_cut (rk:=rk) (loops:=lo32) (joins:=[]) (n:=100000) (by kernel_rfl) h
def lo8:List CutI:=[]
theorem w8{x0:Dat}{g:Glob}{Qf:OGP}(h0:HasTy TT 28 x0)
 (h:EvF TT 32 [sub x0 1 7,.int .i64 0] g (KQ Qf λv g'=>∃n,v=.d (.int .i64 n)∧Qf (.val (.d (.int .i64 (maxS false n 2049)))) g')):
 EvF TT 8 [x0] g Qf:=
 sx_fun (rk:=rk) (fn:=Tryz.f8) (loops:=lo8) (joins:=[]) (n:=100000) (args:=[(28,x0)]) rfl rfl rfl rfl ⟨h0,trivial⟩ (by kernel_rfl) h
end Go.Proofs.YtiheejdkkjfenaaGreatDoor.Pa
namespace Go.Proofs.YtiheejdkkjfenaaGreatDoor.Pa
open Go Go.Proofs.YtiheejdkkjfenaaGreatDoor.Am
mutual
def szPt:Pt→Nat
 |.mk _ _ _ a _=>1+szPts a
def szPts:List Pt→Nat
 |[]=>0
 |x::xs=>szPt x+szPts xs
end
mutual
def szEx:Ex'→Nat
 |.mk _ _ _ _ a b _=>1+szPts b+szExs a
def szExs:List Ex'→Nat
 |[]=>0
 |x::xs=>szEx x+szExs xs
end
theorem szPts_drop{xs:List Dat}{i:Nat}(hi:i<xs.length):szPts ((xs.drop i).map absPt)=szPt (absPt xs[i])+szPts ((xs.drop (i+1)).map absPt):=by
 rw[List.drop_eq_getElem_cons hi];rfl
theorem szExs_drop{xs:List Dat}{i:Nat}(hi:i<xs.length):szExs ((xs.drop i).map absEx)=szEx (absEx xs[i])+szExs ((xs.drop (i+1)).map absEx):=by
 rw[List.drop_eq_getElem_cons hi];rfl
def lft(n:Int)(s:Nat):Int:=if (s:Int)≤n then n-s else -1
theorem lft_add(n:Int)(a b:Nat):lft n (a+b)=lft (lft n a) b:=by
 unfold lft
 repeat' split
 all_goals omega
theorem lft_lt{n:Int}(s:Nat)(h:n<0)(h1:-1≤n):lft n s=n:=by
 unfold lft
 split<;>omega
theorem lft_rng{n:Int}(s:Nat)(h:n≤2048):-1≤lft n s∧lft n s≤2048:=by
 unfold lft
 split<;>omega
def upto(n:Int)(s:Nat):Int:=if n+s≤2048 then n+s else 2049
theorem upto_add(n:Int)(a b:Nat):upto n (a+b)=upto (upto n a) b:=by
 unfold upto
 repeat' split
 all_goals omega
theorem upto_gt{n:Int}(s:Nat)(h:2048<n)(h1:n≤2049):upto n s=n:=by
 unfold upto
 split<;>omega
theorem upto_rng{n:Int}(s:Nat)(h:0≤n):0≤upto n s∧upto n s≤2049:=by
 unfold upto
 split<;>omega
theorem sizePat_ok:∀(k:Nat) (x:Dat) (g:Glob) (n1:Int),SizeOf.sizeOf x<k→HasTy TT 52 x→0≤n1→n1≤2048→∀(Qf:OGP),Qf (.val (.d (.int .i64 (upto n1 (szPt (absPt x)))))) g→EvF TT 59 [x,.int .i64 n1] g Qf
 |0,x,g,n1,hk,_,_,_=>by omega
 |k+1,x,g,n1,hk,hx,h0,h1=>by
  intro Qf hQ
  refine w59 hx ?_
  obtain⟨k1,s1,v1,a1,p1,rfl,hs1,t1⟩:=pat_ty hx
  have ex:=t1.els undPats
  have exl:=ex.1.1
  have hc:=sizeOf_cell (cs:=[.int .i64 k1,.str s1,.int .i64 v1,a1,.int .i64 p1]) (c:=a1) (by simp)
  rw[wrap_id (by omega) (by omega)]
  have hz:upto n1 (szPt (absPt (.agg [.int .i64 k1,.str s1,.int .i64 v1,a1,.int .i64 p1])))=upto (n1+1) (szPts (((elsOf a1).drop 0).map absPt)):=by
   simp only[absPt,szPt,absPtA_map,List.drop_zero]
   rw[upto_add]
   congr 1
   unfold upto
   split<;>omega
  rw[hz] at hQ
  refine loopUp (len:=(elsOf a1).length) (λi=>∀n:Int,0≤n→n≤2049→Qf (.val (.d (.int .i64 (upto n (szPts (((elsOf a1).drop i).map absPt)))))) g→L59_3 n (i:Int) (.agg [.int .i64 k1,.str s1,.int .i64 v1,a1,.int .i64 p1]) g Qf) ?_ ?_ 0 (Nat.zero_le _) (n1+1) (by omega) (by omega) hQ
  ·intro n h0 h1 hQ
   refine w59_3 ?_
   rw[show(fld (Dat.agg [.int .i64 k1,.str s1,.int .i64 v1,a1,.int .i64 p1]) 3)=a1 from rfl,Br_ge]
   rw[List.drop_length,show upto n (szPts (([]:List Dat).map absPt))=n from by simp only[List.map_nil,szPts,upto];split<;>omega] at hQ
   exact hQ
  ·intro i hi ih n h0 h1 hQ
   refine w59_3 ?_
   rw[show(fld (Dat.agg [.int .i64 k1,.str s1,.int .i64 v1,a1,.int .i64 p1]) 3)=a1 from rfl,Br_lt hi,getE_nat hi]
   refine Br_iff.2 ⟨λq=>⟨inB hi,?_⟩,λq=>?_⟩
   ·have hsz:=sizeOf_el hi
    refine sizePat_ok k _ g _ (by omega) (ex.2 _ (List.getElem_mem hi)) h0 (of_decide_eq_true q) _ ⟨_,rfl,?_⟩
    rw[wrap_nat (by omega)]
    refine ih _ (upto_rng _ h0).1 (upto_rng _ h0).2 ?_
    rw[←upto_add,←szPts_drop hi]
    exact hQ
   ·rw[upto_gt _ (by have:=of_decide_eq_false q;omega) h1] at hQ
    exact hQ
theorem sizeExpr_ok:∀(k:Nat) (x:Dat) (g:Glob) (n1:Int),SizeOf.sizeOf x<k→HasTy TT 26 x→0≤n1→n1≤2048→∀(Qf:OGP),Qf (.val (.d (.int .i64 (upto n1 (szEx (absEx x)))))) g→EvF TT 32 [x,.int .i64 n1] g Qf
 |0,x,g,n1,hk,_,_,_=>by omega
 |k+1,x,g,n1,hk,hx,h0,h1=>by
  intro Qf hQ
  refine w32 hx ?_
  obtain⟨k1,s1,r1,v1,a1,b1,p1,rfl,hs1,hr1,t1,u1⟩:=expr_ty hx
  have ex:=t1.els undExprs
  have exl:=ex.1.1
  have eu:=u1.els undPats
  have eul:=eu.1.1
  have hc:=sizeOf_cell (cs:=[.int .i64 k1,.str s1,.str r1,.int .i64 v1,a1,b1,.int .i64 p1]) (c:=a1) (by simp)
  rw[wrap_id (by omega) (by omega)]
  have hz:upto n1 (szEx (absEx (.agg [.int .i64 k1,.str s1,.str r1,.int .i64 v1,a1,b1,.int .i64 p1])))=upto (upto (n1+1) (szPts (((elsOf b1).drop 0).map absPt))) (szExs (((elsOf a1).drop 0).map absEx)):=by
   simp only[absEx,szEx,absPtA_map,absExA_map,List.drop_zero]
   rw[upto_add,upto_add]
   congr 2
   unfold upto
   split<;>omega
  rw[hz] at hQ
  have args:∀n:Int,0≤n→n≤2049→Qf (.val (.d (.int .i64 (upto n (szExs (((elsOf a1).drop 0).map absEx)))))) g→L32_7 n 0 (.agg [.int .i64 k1,.str s1,.str r1,.int .i64 v1,a1,b1,.int .i64 p1]) g Qf:=by
   refine loopUp (len:=(elsOf a1).length) (λi=>∀n:Int,0≤n→n≤2049→Qf (.val (.d (.int .i64 (upto n (szExs (((elsOf a1).drop i).map absEx)))))) g→L32_7 n (i:Int) (.agg [.int .i64 k1,.str s1,.str r1,.int .i64 v1,a1,b1,.int .i64 p1]) g Qf) ?_ ?_ 0 (Nat.zero_le _)
   ·intro n h0 h1 hQ
    refine w32_7 ?_
    rw[show(fld (Dat.agg [.int .i64 k1,.str s1,.str r1,.int .i64 v1,a1,b1,.int .i64 p1]) 4)=a1 from rfl,Br_ge]
    rw[List.drop_length,show upto n (szExs (([]:List Dat).map absEx))=n from by simp only[List.map_nil,szExs,upto];split<;>omega] at hQ
    exact hQ
   ·intro i hi ih n h0 h1 hQ
    refine w32_7 ?_
    rw[show(fld (Dat.agg [.int .i64 k1,.str s1,.str r1,.int .i64 v1,a1,b1,.int .i64 p1]) 4)=a1 from rfl,Br_lt hi,getE_nat hi]
    refine Br_iff.2 ⟨λq=>⟨inB hi,?_⟩,λq=>?_⟩
    ·have hsz:=sizeOf_el hi
     refine sizeExpr_ok k _ g _ (by omega) (ex.2 _ (List.getElem_mem hi)) h0 (of_decide_eq_true q) _ ⟨_,rfl,?_⟩
     rw[wrap_nat (by omega)]
     refine ih _ (upto_rng _ h0).1 (upto_rng _ h0).2 ?_
     rw[←upto_add,←szExs_drop hi]
     exact hQ
    ·rw[upto_gt _ (by have:=of_decide_eq_false q;omega) h1] at hQ
     exact hQ
  refine loopUp (len:=(elsOf b1).length) (λi=>∀n:Int,0≤n→n≤2049→Qf (.val (.d (.int .i64 (upto (upto n (szPts (((elsOf b1).drop i).map absPt))) (szExs (((elsOf a1).drop 0).map absEx)))))) g→L32_3 n (i:Int) (.agg [.int .i64 k1,.str s1,.str r1,.int .i64 v1,a1,b1,.int .i64 p1]) g Qf) ?_ ?_ 0 (Nat.zero_le _) (n1+1) (by omega) (by omega) hQ
  ·intro n h0 h1 hQ
   refine w32_3 ?_
   rw[show(fld (Dat.agg [.int .i64 k1,.str s1,.str r1,.int .i64 v1,a1,b1,.int .i64 p1]) 5)=b1 from rfl,Br_ge]
   rw[List.drop_length,show upto n (szPts (([]:List Dat).map absPt))=n from by simp only[List.map_nil,szPts,upto];split<;>omega] at hQ
   exact args n h0 h1 hQ
  ·intro i hi ih n h0 h1 hQ
   refine w32_3 ?_
   rw[show(fld (Dat.agg [.int .i64 k1,.str s1,.str r1,.int .i64 v1,a1,b1,.int .i64 p1]) 5)=b1 from rfl,Br_lt hi,getE_nat hi]
   refine Br_iff.2 ⟨λq=>⟨inB hi,?_⟩,λq=>?_⟩
   ·refine sizePat_ok _ _ g _ (Nat.lt_succ_self _) (eu.2 _ (List.getElem_mem hi)) h0 (of_decide_eq_true q) _ ⟨_,rfl,?_⟩
    rw[wrap_nat (by omega)]
    refine ih _ (upto_rng _ h0).1 (upto_rng _ h0).2 ?_
    rw[←upto_add n,←szPts_drop hi]
    exact hQ
   ·rw[upto_gt (szPts (((elsOf b1).drop i).map absPt)) (by have:=of_decide_eq_false q;omega) h1] at hQ
    exact args n h0 h1 hQ
theorem refSize_ok(x:Dat)(g:Glob)(hx:HasTy TT 28 x)(Qf:OGP)(hQ:Qf (.val (.d (.int .i64 (upto 0 (szEx (absPg x).e))))) g):EvF TT 8 [x] g Qf:=by
 refine w8 hx ?_
 obtain⟨d1,k1,s1,r1,n1,a1,b1,p1,rfl,hd1,he1⟩:=prog_ty hx
 refine sizeExpr_ok _ _ g _ (Nat.lt_succ_self _) he1 (by omega) (by omega) _ ⟨_,rfl,?_⟩
 have e:maxS false (upto 0 (szEx (absEx (.agg [.int .i64 k1,.str s1,.str r1,.int .i64 n1,a1,b1,.int .i64 p1])))) 2049=upto 0 (szEx (absEx (.agg [.int .i64 k1,.str s1,.str r1,.int .i64 n1,a1,b1,.int .i64 p1]))):=by
  have h:=upto_rng (n:=0) (szEx (absEx (.agg [.int .i64 k1,.str s1,.str r1,.int .i64 n1,a1,b1,.int .i64 p1]))) (by omega)
  simp only[maxS]
  split
  ·rename_i h;cases h
  ·split<;>omega
 show Qf (.val (.d (.int .i64 (maxS false (upto 0 (szEx (absEx (.agg [.int .i64 k1,.str s1,.str r1,.int .i64 n1,a1,b1,.int .i64 p1])))) 2049)))) g
 rw[e]
 exact hQ
end Go.Proofs.YtiheejdkkjfenaaGreatDoor.Pa
namespace Go.Proofs.YtiheejdkkjfenaaGreatDoor.Pa
open Go Go.Proofs.YtiheejdkkjfenaaGreatDoor.Am
mutual
def ndTy:Ty→Nat
 |.mk _ _ _ a=>1+ndTys a
def ndTys:List Ty→Nat
 |[]=>0
 |x::xs=>ndTy x+ndTys xs
end
mutual
def dpTy:Ty→Nat
 |.mk _ _ _ a=>1+dpTys a
def dpTys:List Ty→Nat
 |[]=>0
 |x::xs=>max (dpTy x) (dpTys xs)
end
mutual
def dpPt:Pt→Nat
 |.mk _ _ _ a _=>1+dpPts a
def dpPts:List Pt→Nat
 |[]=>0
 |x::xs=>max (dpPt x) (dpPts xs)
end
mutual
def dpEx:Ex'→Nat
 |.mk _ _ _ _ a b _=>1+max (dpPts b) (dpExs a)
def dpExs:List Ex'→Nat
 |[]=>0
 |x::xs=>max (dpEx x) (dpExs xs)
end
theorem ndTys_drop{xs:List Dat}{i:Nat}(hi:i<xs.length):ndTys ((xs.drop i).map absTy)=ndTy (absTy xs[i])+ndTys ((xs.drop (i+1)).map absTy):=by
 rw[List.drop_eq_getElem_cons hi];rfl
theorem dpTys_drop{xs:List Dat}{i:Nat}(hi:i<xs.length):dpTys ((xs.drop i).map absTy)=max (dpTy (absTy xs[i])) (dpTys ((xs.drop (i+1)).map absTy)):=by
 rw[List.drop_eq_getElem_cons hi];rfl
theorem tdiv10(n:Nat):(n:Int).tdiv 10=((n/10:Nat):Int):=rfl
theorem weighType_all:∀(k:Nat) (x:Dat) (g:Glob) (d n:Int),SizeOf.sizeOf x<k→HasTy TT 61 x→0≤d→d≤601→0≤n→n≤20000→
 ∀(Qf:OGP),(∀r:Int,-1≤r→r≤20000→(0≤r→n+ndTy (absTy x)≤r∧d+dpTy (absTy x)≤601)→Qf (.val (.d (.int .i64 r))) g)→EvF TT 51 [x,.int .i64 d,.int .i64 n] g Qf
 |0,x,g,d,n,hk,_,_,_,_,_=>by omega
 |k+1,x,g,d,n,hk,hx,d0,d1,h0,h1=>by
  intro Qf hQ
  obtain⟨k1,s1,v1,a1,rfl,hs1,t1⟩:=type_ty hx
  have ex:=t1.els undTypes
  have exl:=ex.1.1
  have hc:=sizeOf_cell (cs:=[.int .i64 k1,.str s1,.int .i64 v1,a1]) (c:=a1) (by simp)
  have hw:IntKind.i64.wrap (n+IntKind.i64.wrap (1+IntKind.i64.wrap ((↑(elsOf a1).length:Int).tdiv 10)))=n+(1+(((elsOf a1).length/10:Nat):Int)):=by
   rw[tdiv10,wrap_id (n:=(((elsOf a1).length/10:Nat):Int)) (by omega) (by omega),wrap_id (n:=1+(((elsOf a1).length/10:Nat):Int)) (by omega) (by omega),wrap_id (by omega) (by omega)]
  refine w51 hx ⟨neZ (by decide),?_⟩
  rw[show(fld (Dat.agg [.int .i64 k1,.str s1,.int .i64 v1,a1]) 3)=a1 from rfl,hw]
  refine Br_iff.2 ⟨λ_=>hQ _ (by omega) (by omega) (λh=>by omega),λq1=>Br_iff.2 ⟨λ_=>hQ _ (by omega) (by omega) (λh=>by omega),λq2=>?_⟩⟩
  have q1:=of_decide_eq_false q1
  have q2:=of_decide_eq_false q2
  have e1:ndTy (absTy (.agg [.int .i64 k1,.str s1,.int .i64 v1,a1]))=1+ndTys (((elsOf a1).drop 0).map absTy):=by simp only[absTy,ndTy,absTyA_map,List.drop_zero]
  have e2:dpTy (absTy (.agg [.int .i64 k1,.str s1,.int .i64 v1,a1]))=1+dpTys (((elsOf a1).drop 0).map absTy):=by simp only[absTy,dpTy,absTyA_map,List.drop_zero]
  rw[e1,e2] at hQ
  refine loopUp (len:=(elsOf a1).length) (λi=>∀m:Int,-1≤m→m≤20000→(∀r:Int,-1≤r→r≤20000→(0≤r→0≤m∧m+ndTys (((elsOf a1).drop i).map absTy)≤r∧d+(1+dpTys (((elsOf a1).drop i).map absTy))≤601)→Qf (.val (.d (.int .i64 r))) g)→L51_5 d m (i:Int) (.agg [.int .i64 k1,.str s1,.int .i64 v1,a1]) g Qf) ?_ ?_ 0 (Nat.zero_le _) _ (by omega) (by omega) (λr r0 r1 h=>hQ r r0 r1 λhr=>⟨by have:=(h hr).2.1;omega,by have:=(h hr).2.2;omega⟩)
  ·intro m m0 m1 hQ
   refine w51_5 ?_
   rw[show(fld (Dat.agg [.int .i64 k1,.str s1,.int .i64 v1,a1]) 3)=a1 from rfl,Br_ge]
   exact hQ _ m0 m1 λhr=>by rw[List.drop_length];simp only[List.map_nil,ndTys,dpTys];omega
  ·intro i hi ih m m0 m1 hQ
   refine w51_5 ?_
   rw[show(fld (Dat.agg [.int .i64 k1,.str s1,.int .i64 v1,a1]) 3)=a1 from rfl,Br_lt hi,getE_nat hi]
   refine Br_iff.2 ⟨λq=>⟨inB hi,?_⟩,λq=>hQ _ m0 m1 λhr=>by have:=of_decide_eq_false q;omega⟩
   have hsz:=sizeOf_el hi
   rw[wrap_id (by omega) (by omega)]
   refine weighType_all k _ g _ _ (by omega) (ex.2 _ (List.getElem_mem hi)) (by omega) (by omega) (of_decide_eq_true q) m1 _ λr r0 r1 hr=>⟨_,rfl,?_⟩
   rw[wrap_nat (by omega)]
   refine ih r r0 r1 λr' s0 s1 hr'=>hQ r' s0 s1 λh'=>?_
   rw[ndTys_drop hi,dpTys_drop hi]
   have a:=hr' h'
   have b:=hr a.1
   have c:=of_decide_eq_true q
   omega
end Go.Proofs.YtiheejdkkjfenaaGreatDoor.Pa
namespace Go.Proofs.YtiheejdkkjfenaaGreatDoor.Pa
open Go Go.Proofs.YtiheejdkkjfenaaGreatDoor.Am
def SmTy(x:Dat):Prop:=ndTy (absTy x)≤20000∧dpTy (absTy x)≤601
def SmCn(c:Dat):Prop:=∀t∈elsOf (fld c 1),SmTy t
def SmDc(d:Dat):Prop:=∀c∈elsOf (fld d 2),SmCn c
theorem all_step{xs:List Dat}{i:Nat}{P:Dat→Prop}(hi:i<xs.length)(h:∀j (hj:j<i),P (xs[j]'(by omega)))(hp:P xs[i]):∀j (hj:j<i+1),P (xs[j]'(by omega)):=λj hj=>by
 rcases Nat.lt_or_ge j i with q|q
 ·exact h j q
 ·have:j=i:=by omega
  subst this
  exact hp
theorem all_done{xs:List Dat}{P:Dat→Prop}(h:∀j (hj:j<xs.length),P xs[j]):∀x∈xs,P x:=λx hx=>by
 obtain⟨j,hj,rfl⟩:=List.mem_iff_getElem.1 hx
 exact h j hj
theorem largeDecls_all(x:Dat)(g:Glob)(hx:HasTy TT 22 x)(Qf:OGP)(hT:Qf (.val (.d (.bool true))) g)(hF:(∀d∈elsOf x,SmDc d)→Qf (.val (.d (.bool false))) g):EvF TT 26 [x] g Qf:=by
 have ex:=hx.els undDecls
 have exl:=ex.1.1
 refine w26 hx (Br_iff.2 ⟨λ_=>hT,λ_=>?_⟩)
 refine loopUp (len:=(elsOf x).length) (λi=>∀n:Int,0≤n→n≤20000→(hb:i≤(elsOf x).length)→(∀j (hj:j<i),SmDc ((elsOf x)[j]'(by omega)))→L26_5 x n (i:Int) g Qf) ?_ ?_ 0 (Nat.zero_le _) 0 (by omega) (by omega) (Nat.zero_le _) (λj hj=>by omega)
 ·intro n n0 n1 hb hd
  refine w26_5 ?_
  rw[Br_ge]
  exact hF (all_done hd)
 ·intro i hi ih n n0 n1 hb hd
  refine w26_5 ?_
  rw[Br_lt hi]
  refine⟨inB hi,Br_iff.2 ⟨λ_=>hT,λ_=>⟨inB hi,Br_iff.2 ⟨λ_=>hT,λ_=>?_⟩⟩⟩⟩
  obtain⟨s1,a1,b1,p1,e1,hs1,ta1,tb1⟩:=decl_ty (ex.2 _ (List.getElem_mem hi))
  have hf:fld (getE (elsOf x) (i:Int)) 2=b1:=by rw[getE_nat hi,e1];rfl
  have hf':fld (elsOf x)[i] 2=b1:=by rw[e1];rfl
  have eb:=tb1.els undCons
  have ebl:=eb.1.1
  refine loopUp (len:=(elsOf b1).length) (λj=>∀n:Int,0≤n→n≤20000→(hb:j≤(elsOf b1).length)→(∀q (hq:q<j),SmCn ((elsOf b1)[q]'(by omega)))→L26_10 x n (i:Int) (j:Int) g Qf) ?_ ?_ 0 (Nat.zero_le _) n n0 n1 (Nat.zero_le _) (λj hj=>by omega)
  ·intro n n0 n1 hb hc
   refine w26_10 ⟨inB hi,?_⟩
   rw[hf,Br_ge,wrap_nat (by omega)]
   exact ih n n0 n1 (by omega) (all_step hi hd (by unfold SmDc;rw[hf'];exact all_done hc))
  ·intro j hj ihj n n0 n1 hb hc
   refine w26_10 ⟨inB hi,?_⟩
   rw[hf,Br_lt hj]
   refine⟨inB hi,inB hj,Br_iff.2 ⟨λ_=>hT,λ_=>?_⟩⟩
   obtain⟨t1,f1,d1,ht1,tf1⟩:=con_ty (eb.2 _ (List.getElem_mem hj))
   have hf2:fld (getE (elsOf b1) (j:Int)) 1=f1:=by rw[getE_nat hj,d1];rfl
   have hf2':fld (elsOf b1)[j] 1=f1:=by rw[d1];rfl
   have ef:=tf1.els undTypes
   have efl:=ef.1.1
   refine loopUp (len:=(elsOf f1).length) (λq=>∀n:Int,-1≤n→n≤20000→(hb:q≤(elsOf f1).length)→(0≤n→∀u (hu:u<q),SmTy ((elsOf f1)[u]'(by omega)))→L26_15 x n (i:Int) (j:Int) (q:Int) g Qf) ?_ ?_ 0 (Nat.zero_le _) n (by omega) n1 (Nat.zero_le _) (λ_ j hj=>by omega)
   ·intro n n0 n1 hb hu
    refine w26_15 ⟨inB hi,?_⟩
    rw[hf,hf2,Br_ge]
    refine⟨inB hj,Br_iff.2 ⟨λ_=>hT,λq=>?_⟩⟩
    have q:=of_decide_eq_false q
    rw[wrap_nat (by omega)]
    exact ihj n (by omega) n1 (by omega) (all_step hj hc (by unfold SmCn;rw[hf2'];exact all_done (hu (by omega))))
   ·intro q hq ihq n n0 n1 hb hu
    refine w26_15 ⟨inB hi,?_⟩
    rw[hf,hf2,Br_lt hq]
    refine⟨inB hj,Br_iff.2 ⟨λp=>⟨inB hi,inB hj,inB hq,?_⟩,λp=>Br_iff.2 ⟨λ_=>hT,λp'=>?_⟩⟩⟩
    ·rw[getE_nat hq]
     have p:=of_decide_eq_true p
     refine weighType_all _ _ g _ _ (Nat.lt_succ_self _) (ef.2 _ (List.getElem_mem hq)) (by omega) (by omega) p n1 _ λr r0 r1 hr=>⟨_,rfl,?_⟩
     rw[wrap_nat (by omega)]
     exact ihq r r0 r1 (by omega) λhr0=>all_step hq (hu p) ⟨by have:=(hr hr0).1;omega,by have:=(hr hr0).2;omega⟩
    ·have p:=of_decide_eq_false p
     have p':=of_decide_eq_false p'
     omega
end Go.Proofs.YtiheejdkkjfenaaGreatDoor.Pa
namespace Go.Proofs.YtiheejdkkjfenaaGreatDoor.Pa
open Go Go.Proofs.YtiheejdkkjfenaaGreatDoor.Am
end Go.Proofs.YtiheejdkkjfenaaGreatDoor.Pa
namespace Go.Proofs.YtiheejdkkjfenaaGreatDoor.Pa
open Go Go.Proofs.YtiheejdkkjfenaaGreatDoor.Am
end Go.Proofs.YtiheejdkkjfenaaGreatDoor.Pa
