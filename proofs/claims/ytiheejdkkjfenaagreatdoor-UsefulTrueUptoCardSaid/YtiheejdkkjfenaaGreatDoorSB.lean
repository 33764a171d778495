/- What functions of the program do, printed by wip/tools/sx/sx.py. Useful: values, and whether a pattern meets one. -/
import Derived.Test.YtiheejdkkjfenaaGreatDoorSA
set_option linter.all false
set_option autoImplicit false
set_option maxRecDepth 100000
namespace Go.Proofs.YtiheejdkkjfenaaGreatDoor.Pa
open Go Go.Proofs.YtiheejdkkjfenaaGreatDoor.Am
def L23_12(x0:Dat)(n60:Int)(n61:Int)(y5:Dat)(y4:Dat)(g:Glob)(Qf:OGP):Prop:=CutP TT Tryz.f23 [1,0,1,0,1,1,1,1,1,0,1,1,0,1,0] Qf (mkC TT 23 Tryz.f23 3 [(0,.v 22 (x0)),(4,.loc 4 0 0),(5,.loc 5 0 0),(60,.v 3 (.int .i64 n60)),(61,.v 3 (.int .i64 n61))] [(5,.whole 55 y5),(4,.whole 52 y4)] g)
def lo23:List CutI:=[⟨12,[(0,.keep),(4,.keep),(5,.keep),(60,.keep),(61,.keep)],[(5,.whole 55),(4,.whole 52)]⟩]
theorem w23{x0:Dat}{x1:Dat}{x2:Dat}{g:Glob}{Qf:OGP}(h0:HasTy TT 22 x0)(h1:HasTy TT 52 x1)(h2:HasTy TT 55 x2)
 (h:Br (intOf (fld x1 0)==1) (Br (intOf (fld x1 0)==1) (Qf (.val (.d (.bool true))) g) (Br (intOf (fld x1 0)==3) (Br (boolOf (fld x2 0)) (Qf (.val (.d (.bool (intOf (fld x2 1)==intOf (fld x1 2))))) g) (Qf (.val (.d (.bool false))) g)) (Br (intOf (fld x1 0)==4) (EvF TT 49 [x0,.str (strOf (fld x1 1))] g (KQ Qf λv g'=>∃n n_1 b,RetT v [.int .i64 n,.int .i64 n_1,.bool b]∧Br (!b) (Qf (.val (.d (.bool false))) g') (Br (boolOf (fld x2 0)) (Qf (.val (.d (.bool false))) g') (Br (intOf (fld x2 1)!=n_1) (Qf (.val (.d (.bool false))) g') (Br ((↑(elsOf (fld x2 2)).length:Int)!=(↑(elsOf (fld x1 3)).length:Int)) (Qf (.val (.d (.bool false))) g') (L23_12 x0 (↑(elsOf (fld x1 3)).length:Int) 0 x2 x1 g' Qf)))))) (Qf (.val (.d (.bool false))) g)))) (Br (intOf (fld x1 0)==2) (Qf (.val (.d (.bool true))) g) (Br (intOf (fld x1 0)==3) (Br (boolOf (fld x2 0)) (Qf (.val (.d (.bool (intOf (fld x2 1)==intOf (fld x1 2))))) g) (Qf (.val (.d (.bool false))) g)) (Br (intOf (fld x1 0)==4) (EvF TT 49 [x0,.str (strOf (fld x1 1))] g (KQ Qf λv g'=>∃n n_1 b,RetT v [.int .i64 n,.int .i64 n_1,.bool b]∧Br (!b) (Qf (.val (.d (.bool false))) g') (Br (boolOf (fld x2 0)) (Qf (.val (.d (.bool false))) g') (Br (intOf (fld x2 1)!=n_1) (Qf (.val (.d (.bool false))) g') (Br ((↑(elsOf (fld x2 2)).length:Int)!=(↑(elsOf (fld x1 3)).length:Int)) (Qf (.val (.d (.bool false))) g') (L23_12 x0 (↑(elsOf (fld x1 3)).length:Int) 0 x2 x1 g' Qf)))))) (Qf (.val (.d (.bool false))) g))))):
 EvF TT 23 [x0,x1,x2] g Qf:=
 sx_fun (rk:=rk) (fn:=Tryz.f23) (loops:=lo23) (joins:=[]) (n:=100000) (args:=[(22,x0),(52,x1),(55,x2)]) rfl rfl rfl rfl ⟨h0,h1,h2,trivial⟩ (by kernel_rfl) h
theorem w23_12{x0:Dat}{n60:Int}{n61:Int}{y5:Dat}{y4:Dat}{g:Glob}{Qf:OGP}
 (h:Br (decide (n61<n60)) (InB n61 (elsOf (fld y4 3)).length∧InB n61 (elsOf (fld y5 2)).length∧EvF TT 23 [x0,getE (elsOf (fld y4 3)) n61,getE (elsOf (fld y5 2)) n61] g (KQ Qf λv g'=>∃b,v=.d (.bool b)∧Br (!b) (Qf (.val (.d (.bool false))) g') (L23_12 x0 n60 (IntKind.i64.wrap (n61+1)) y5 y4 g' Qf))) (Qf (.val (.d (.bool true))) g)):
 L23_12 x0 n60 n61 y5 y4 g Qf:=sx_cut (rk:=rk) (loops:=lo23) (joins:=[]) (n:=100000) (by kernel_rfl) h
def L24_3(l3:List Dat)(n4:Int)(y2:Dat)(y1:Dat)(g:Glob)(Qf:OGP):Prop:=CutP TT Tryz.f24 [1,1,0,1,0] Qf (mkC TT 24 Tryz.f24 1 [(1,.loc 1 0 0),(2,.loc 2 0 0),(3,.acc [(20,0)] 53 3 l3),(4,.v 3 (.int .i64 n4))] [(2,.whole 55 y2),(1,.whole 55 y1)] g)
def lo24:List CutI:=[⟨3,[(1,.keep),(2,.keep),(3,.acc [20]),(4,.keep)],[(2,.whole 55),(1,.whole 55)]⟩]
theorem w24{x0:Dat}{g:Glob}{Qf:OGP}(h0:HasTy TT 55 x0)
 (h:L24_3 [] 0 (.agg [.bool false,.int .i64 0,.nil]) x0 g Qf):
 EvF TT 24 [x0] g Qf:=
 sx_fun (rk:=rk) (fn:=Tryz.f24) (loops:=lo24) (joins:=[]) (n:=100000) (args:=[(55,x0)]) rfl rfl rfl rfl ⟨h0,trivial⟩ (by kernel_rfl) h
theorem w24_3{l3:List Dat}{n4:Int}{y2:Dat}{y1:Dat}{g:Glob}{Qf:OGP}
 (h:Br (decide (n4<(↑(elsOf (fld y1 2)).length:Int))) (InB n4 (elsOf (fld y1 2)).length∧EvF TT 24 [getE (elsOf (fld y1 2)) n4] g (KQ Qf λv g'=>∃x,HasTy TT 55 x∧v=.d x∧Fits (l3.length+[x].length) 40∧L24_3 (l3++[x]) (IntKind.i64.wrap (n4+1)) y2 y1 g' Qf)) (Qf (.val (.d (.agg [.bool (boolOf (.bool (boolOf (fld y1 0)))),.int .i64 (intOf (.int .i64 (intOf (fld y1 1)))),fld (.agg [.bool (boolOf (fld y1 0)),.int .i64 (intOf (fld y1 1)),slOf 3 l3]) 2]))) g)):
 L24_3 l3 n4 y2 y1 g Qf:=sx_cut (rk:=rk) (loops:=lo24) (joins:=[]) (n:=100000) (by kernel_rfl) h
def L48_5(n1:Int)(n2:Int)(n7:Int)(y3:Dat)(g:Glob)(Qf:OGP):Prop:=CutP TT Tryz.f48 [1,1,1,0,1,0] Qf (mkC TT 48 Tryz.f48 3 [(1,.v 3 (.int .i64 n1)),(2,.v 3 (.int .i64 n2)),(3,.loc 3 0 0),(7,.v 3 (.int .i64 n7))] [(3,.whole 55 y3)] g)
def lo48:List CutI:=[⟨5,[(1,.keep),(2,.keep),(3,.keep),(7,.keep)],[(3,.whole 55)]⟩]
theorem w48{x0:Dat}{n1:Int}{n2:Int}{g:Glob}{Qf:OGP}(h0:HasTy TT 55 x0)
 (h:NeZ 10∧Br (decide (3000<IntKind.i64.wrap (n2+IntKind.i64.wrap (1+IntKind.i64.wrap ((↑(elsOf (fld x0 2)).length:Int).tdiv 10))))) (Qf (.val (.d (.int .i64 (-1)))) g) (Br (decide (400<n1)) (Qf (.val (.d (.int .i64 (-1)))) g) (L48_5 n1 (IntKind.i64.wrap (n2+IntKind.i64.wrap (1+IntKind.i64.wrap ((↑(elsOf (fld x0 2)).length:Int).tdiv 10)))) 0 x0 g Qf))):
 EvF TT 48 [x0,.int .i64 n1,.int .i64 n2] g Qf:=
 sx_fun (rk:=rk) (fn:=Tryz.f48) (loops:=lo48) (joins:=[]) (n:=100000) (args:=[(55,x0),(3,.int .i64 n1),(3,.int .i64 n2)]) rfl rfl rfl rfl ⟨h0,tyInt rfl,tyInt rfl,trivial⟩ (by kernel_rfl) h
theorem w48_5{n1:Int}{n2:Int}{n7:Int}{y3:Dat}{g:Glob}{Qf:OGP}
 (h:Br (decide (n7<(↑(elsOf (fld y3 2)).length:Int))) (Br (decide (0≤n2)) (InB n7 (elsOf (fld y3 2)).length∧EvF TT 48 [getE (elsOf (fld y3 2)) n7,.int .i64 (IntKind.i64.wrap (n1+1)),.int .i64 n2] g (KQ Qf λv g'=>∃n,v=.d (.int .i64 n)∧L48_5 n1 n (IntKind.i64.wrap (n7+1)) y3 g' Qf)) (Qf (.val (.d (.int .i64 n2))) g)) (Qf (.val (.d (.int .i64 n2))) g)):
 L48_5 n1 n2 n7 y3 g Qf:=sx_cut (rk:=rk) (loops:=lo48) (joins:=[]) (n:=100000) (by kernel_rfl) h
def lo22:List CutI:=[]
theorem w22{x0:Dat}{g:Glob}{Qf:OGP}(h0:HasTy TT 55 x0)
 (h:EvF TT 48 [x0,.int .i64 0,.int .i64 0] g (KQ Qf λv g'=>∃n,v=.d (.int .i64 n)∧Qf (.val (.d (.bool (decide (n<0))))) g')):
 EvF TT 22 [x0] g Qf:=
 sx_fun (rk:=rk) (fn:=Tryz.f22) (loops:=lo22) (joins:=[]) (n:=100000) (args:=[(55,x0)]) rfl rfl rfl rfl ⟨h0,trivial⟩ (by kernel_rfl) h
def L14_5(x1:Dat)(n5:Int)(n6:Int)(g:Glob)(Qf:OGP):Prop:=CutP TT Tryz.f14 [1,1,1,0,1,0] Qf (mkC TT 14 Tryz.f14 2 [(1,.v 24 (x1)),(5,.v 3 (.int .i64 n5)),(6,.v 3 (.int .i64 n6))] [] g)
def lo14:List CutI:=[⟨5,[(1,.keep),(5,.keep),(6,.keep)],[]⟩]
theorem w14{x0:Dat}{x1:Dat}{g:Glob}{Qf:OGP}(h0:HasTy TT 22 x0)(h1:HasTy TT 24 x1)
 (h:EvF TT 26 [x0] g (KQ Qf λv g'=>∃b,v=.d (.bool b)∧Br b (Qf (.val (.d (.bool true))) g') (Br (decide (60<(↑(elsOf x1).length:Int))) (Qf (.val (.d (.bool true))) g') (L14_5 x1 0 0 g' Qf)))):
 EvF TT 14 [x0,x1] g Qf:=
 sx_fun (rk:=rk) (fn:=Tryz.f14) (loops:=lo14) (joins:=[]) (n:=100000) (args:=[(22,x0),(24,x1)]) rfl rfl rfl rfl ⟨h0,h1,trivial⟩ (by kernel_rfl) h
theorem w14_5{x1:Dat}{n5:Int}{n6:Int}{g:Glob}{Qf:OGP}
 (h:Br (decide (n6<(↑(elsOf x1).length:Int))) (InB n6 (elsOf x1).length∧EvF TT 41 [getE (elsOf x1) n6] g (KQ Qf λv g'=>∃b,v=.d (.bool b)∧Br b (Qf (.val (.d (.bool true))) g') (InB n6 (elsOf x1).length∧EvF TT 8 [.agg [.nil,.int .i64 (intOf (.int .i64 0)),.str [],.str [],.int .i64 (intOf (.int .i64 0)),.nil,.sl 5 [getE (elsOf x1) n6],.int .i64 (intOf (.int .i64 0))]] g' (KQ Qf λv g'=>∃n,v=.d (.int .i64 n)∧Br (decide (600<IntKind.i64.wrap (n5+n))) (Qf (.val (.d (.bool true))) g') (L14_5 x1 (IntKind.i64.wrap (n5+n)) (IntKind.i64.wrap (n6+1)) g' Qf))))) (Qf (.val (.d (.bool false))) g)):
 L14_5 x1 n5 n6 g Qf:=sx_cut (rk:=rk) (loops:=lo14) (joins:=[]) (n:=100000) (by kernel_rfl) h
def lo41:List CutI:=[]
theorem w41{x0:Dat}{g:Glob}{Qf:OGP}(h0:HasTy TT 52 x0)
 (h:EvF TT 71 [x0,.int .i64 0,.int .i64 0] g (KQ Qf λv g'=>∃n,v=.d (.int .i64 n)∧Qf (.val (.d (.bool (decide (n<0))))) g')):
 EvF TT 41 [x0] g Qf:=
 sx_fun (rk:=rk) (fn:=Tryz.f41) (loops:=lo41) (joins:=[]) (n:=100000) (args:=[(52,x0)]) rfl rfl rfl rfl ⟨h0,trivial⟩ (by kernel_rfl) h
end Go.Proofs.YtiheejdkkjfenaaGreatDoor.Pa
namespace Go.Proofs.YtiheejdkkjfenaaGreatDoor.Pa
open Go Go.Proofs.YtiheejdkkjfenaaGreatDoor.Am
inductive Vl where
 |mk (i:Bool) (n:Int) (a:List Vl)
instance:Inhabited Vl:=⟨.mk false 0 []⟩
mutual
def absVl:Dat→Vl
 |.agg [.bool i,.int _ n,a]=>.mk i n (absVlA a)
 |_=>default
def absVlA:Dat→List Vl
 |.sl _ xs=>absVlL xs
 |.gsl _ _ xs=>absVlL xs
 |_=>[]
def absVlL:List Dat→List Vl
 |[]=>[]
 |x::xs=>absVl x::absVlL xs
end
theorem absVlL_map(xs:List Dat):absVlL xs=xs.map absVl:=by induction xs with
 |nil=>rfl
 |cons x xs ih=>simp only[absVlL,List.map_cons,ih]
theorem absVlA_map(x:Dat):absVlA x=(elsOf x).map absVl:=by cases x<;>simp[absVlA,elsOf,absVlL_map]
theorem undVals:TT.und 53=some (.slice 55):=by kernel_rfl
theorem szVal:TT.size 55=some 3:=by kernel_rfl
theorem byVal:TT.bytes 55=some 40:=by kernel_rfl
theorem bool_ty{x:Dat}(h:HasTy TT 4 x):∃b,x=.bool b:=⟨_,h.bool_inv undBool⟩
theorem ty_bool{b:Bool}:HasTy TT 4 (.bool b):=tyBool undBool
theorem val_ty{x:Dat}(h:HasTy TT 55 x):∃i n a,x=.agg [.bool i,.int .i64 n,a]∧HasTy TT 53 a:=by
 obtain⟨cs,rfl,hc⟩:=struct_ty (tys:=[4,3,53]) (by kernel_rfl) (by kernel_rfl) h
 match cs,hc with
 |[c0,c1,c2],⟨h0,h1,h2,_⟩=>
  obtain⟨i,rfl⟩:=bool_ty h0
  obtain⟨n,rfl⟩:=int_ty h1
  exact⟨i,n,c2,rfl,h2⟩
theorem ty_val{i:Bool}{n:Int}{a:Dat}(ha:HasTy TT 53 a):HasTy TT 55 (.agg [.bool i,.int .i64 n,a]):=
 struct_of (tys:=[4,3,53]) (by kernel_rfl) (by kernel_rfl) (by kernel_rfl) ⟨ty_bool,ty_int,ha,trivial⟩
mutual
def mtP(l:List Dc):Pt→Vl→Bool
 |.mk k s n a _,.mk i m b=>bif k==1 then true else bif k==2 then true else bif k==3 then i&&m==n else bif k==4 then
  (findDc s l 0).2.2&&(!i&&(m==(findDc s l 0).2.1&&(((b.length:Int)==(a.length:Int))&&mtPs l a b))) else false
def mtPs(l:List Dc):List Pt→List Vl→Bool
 |x::a,y::b=>mtP l x y&&mtPs l a b
 |_,_=>true
end
theorem mtPs_drop(l:List Dc){xs ys:List Dat}{i:Nat}(h1:i<xs.length)(h2:i<ys.length):mtPs l ((xs.drop i).map absPt) ((ys.drop i).map absVl)=(mtP l (absPt xs[i]) (absVl ys[i])&&mtPs l ((xs.drop (i+1)).map absPt) ((ys.drop (i+1)).map absVl)):=by
 rw[List.drop_eq_getElem_cons h1,List.drop_eq_getElem_cons h2]
 rfl
theorem mtPs_end(l:List Dc)(ys:List Vl):mtPs l [] ys=true:=by cases ys<;>rfl
theorem meets_ok:∀(k:Nat) (l x v:Dat) (g:Glob),SizeOf.sizeOf x<k→HasTy TT 22 l→HasTy TT 52 x→HasTy TT 55 v→∀(Qf:OGP),Qf (.val (.d (.bool (mtP ((elsOf l).map absDc) (absPt x) (absVl v))))) g→EvF TT 23 [l,x,v] g Qf
 |0,l,x,v,g,hk,_,_,_=>by omega
 |k+1,l,x,v,g,hk,hl,hx,hv=>by
  intro Qf hQ
  have hw:=w23 (g:=g) (Qf:=Qf) hl hx hv
  obtain⟨k1,s1,n1,a1,p1,rfl,hs1,t1⟩:=pat_ty hx
  obtain⟨i2,m2,a2,rfl,t2⟩:=val_ty hv
  have hab:absPt (.agg [.int .i64 k1,.str s1,.int .i64 n1,a1,.int .i64 p1])=.mk k1 s1 n1 ((elsOf a1).map absPt) p1:=by rw[←absPtA_map];rfl
  have hav:absVl (.agg [.bool i2,.int .i64 m2,a2])=.mk i2 m2 ((elsOf a2).map absVl):=by rw[←absVlA_map];rfl
  rw[hab,hav,mtP] at hQ
  have ex:=t1.els undPats
  have ey:=t2.els undVals
  have exl:=ex.1.1
  have hc:=sizeOf_cell (cs:=[.int .i64 k1,.str s1,.int .i64 n1,a1,.int .i64 p1]) (c:=a1) (by simp)
  have f0:fld (.agg [.int .i64 k1,.str s1,.int .i64 n1,a1,.int .i64 p1]) 3=a1:=rfl
  have f1:fld (.agg [.bool i2,.int .i64 m2,a2]) 2=a2:=rfl
  have loop:(elsOf a2).length=(elsOf a1).length→Qf (.val (.d (.bool (mtPs ((elsOf l).map absDc) ((elsOf a1).map absPt) ((elsOf a2).map absVl))))) g→L23_12 l ((elsOf a1).length:Int) 0 (.agg [.bool i2,.int .i64 m2,a2]) (.agg [.int .i64 k1,.str s1,.int .i64 n1,a1,.int .i64 p1]) g Qf:=λhn h0=>by
   refine loopUp (len:=(elsOf a1).length) (λi=>Qf (.val (.d (.bool (mtPs ((elsOf l).map absDc) (((elsOf a1).drop i).map absPt) (((elsOf a2).drop i).map absVl))))) g→L23_12 l ((elsOf a1).length:Int) (i:Int) (.agg [.bool i2,.int .i64 m2,a2]) (.agg [.int .i64 k1,.str s1,.int .i64 n1,a1,.int .i64 p1]) g Qf) ?_ ?_ 0 (Nat.zero_le _) h0
   ·intro hQ
    refine w23_12 ?_
    rw[Br_ge]
    rw[List.drop_length,List.map_nil,mtPs_end] at hQ
    exact hQ
   ·intro i hi ih hQ
    refine w23_12 ?_
    have hi2:i<(elsOf a2).length:=by omega
    rw[Br_lt hi,f0,f1,getE_nat hi,getE_nat hi2]
    rw[mtPs_drop _ hi hi2] at hQ
    have hsz:=sizeOf_el hi
    refine⟨inB hi,inB hi2,meets_ok k l _ _ g (by omega) hl (ex.2 _ (List.getElem_mem hi)) (ey.2 _ (List.getElem_mem hi2)) _ ⟨_,rfl,Br_iff.2 ⟨λq=>?_,λq=>?_⟩⟩⟩
    ·rw[Bool.not_eq_true'] at q
     rw[q] at hQ
     exact hQ
    ·rw[Bool.not_eq_false'] at q
     rw[q,Bool.true_and] at hQ
     rw[wrap_nat (by omega)]
     exact ih hQ
  refine hw ?_
  simp only[fld,nth,strOf,intOf,boolOf]
  have fin:∀b,(bif k1==1 then true else bif k1==2 then true else bif k1==3 then i2&&m2==n1 else bif k1==4 then
   (findDc s1 ((elsOf l).map absDc) 0).2.2&&(!i2&&(m2==(findDc s1 ((elsOf l).map absDc) 0).2.1&&(((((elsOf a2).map absVl).length:Int)==(((elsOf a1).map absPt).length:Int))&&mtPs ((elsOf l).map absDc) ((elsOf a1).map absPt) ((elsOf a2).map absVl)))) else false)=b→Qf (.val (.d (.bool b))) g:=λb e=>e▸hQ
  have con:(k1==4)=true→EvF TT 49 [l,Dat.str s1] g (KQ Qf λv g'=>∃n n_1 b,RetT v [Dat.int IntKind.i64 n,Dat.int IntKind.i64 n_1,Dat.bool b]∧Br (!b) (Qf (Out.val (Val.d (Dat.bool false))) g') (Br i2 (Qf (Out.val (Val.d (Dat.bool false))) g') (Br (m2 !=n_1) (Qf (Out.val (Val.d (Dat.bool false))) g') (Br ((↑(elsOf a2).length:Int)!=(↑(elsOf a1).length:Int)) (Qf (Out.val (Val.d (Dat.bool false))) g') (L23_12 l (↑(elsOf a1).length:Int) 0 (.agg [.bool i2,.int .i64 m2,a2]) (.agg [.int .i64 k1,.str s1,.int .i64 n1,a1,.int .i64 p1]) g' Qf))))):=λh4=>by
   have h4':k1=4:=by simpa using h4
   subst h4'
   have fin':∀b,((findDc s1 ((elsOf l).map absDc) 0).2.2&&(!i2&&(m2==(findDc s1 ((elsOf l).map absDc) 0).2.1&&((((elsOf a2).length:Int)==((elsOf a1).length:Int))&&mtPs ((elsOf l).map absDc) ((elsOf a1).map absPt) ((elsOf a2).map absVl)))))=b→Qf (.val (.d (.bool b))) g:=λb e=>fin b (by rw[List.length_map,List.length_map];exact e)
   refine find_ok l s1 g hl hs1 _ ⟨_,_,_,⟨rfl,rfl,rfl,trivial⟩,?_⟩
   refine Br_iff.2 ⟨λq=>fin' _ ?_,λq=>Br_iff.2 ⟨λq2=>fin' _ ?_,λq2=>Br_iff.2 ⟨λq3=>fin' _ ?_,λq3=>Br_iff.2 ⟨λq4=>fin' _ ?_,λq4=>?_⟩⟩⟩⟩
   ·rw[Bool.not_eq_true'] at q;rw[q];rfl
   ·rw[q2];cases (findDc s1 ((elsOf l).map absDc) 0).2.2<;>rfl
   ·rw[bne,Bool.not_eq_true'] at q3;rw[q3];cases (findDc s1 ((elsOf l).map absDc) 0).2.2<;>cases i2<;>rfl
   ·rw[bne,Bool.not_eq_true'] at q4;rw[q4];cases (findDc s1 ((elsOf l).map absDc) 0).2.2<;>cases i2<;>cases (m2==(findDc s1 ((elsOf l).map absDc) 0).2.1)<;>rfl
   ·rw[Bool.not_eq_false'] at q
    rw[bne,Bool.not_eq_false'] at q3 q4
    have hn0:((elsOf a2).length:Int)=((elsOf a1).length:Int):=by simpa using q4
    have hn:(elsOf a2).length=(elsOf a1).length:=by omega
    refine loop hn (fin' _ ?_)
    rw[q,q2,q3,q4]
    rfl
  refine Br_iff.2 ⟨λq=>?_,λq=>Br_iff.2 ⟨λq2=>fin _ (by rw[q,q2];rfl),λq2=>Br_iff.2 ⟨λq3=>Br_iff.2 ⟨λq4=>fin _ (by rw[q,q2,q3,q4];rfl),λq4=>fin _ (by rw[q,q2,q3,q4];rfl)⟩,λq3=>Br_iff.2 ⟨λq4=>con q4,λq4=>fin _ (by rw[q,q2,q3,q4];rfl)⟩⟩⟩⟩
  rw[q,Br_true]
  exact fin _ (by rw[q];rfl)
theorem copyVal_ok:∀(k:Nat) (x:Dat) (g:Glob),SizeOf.sizeOf x<k→HasTy TT 55 x→∀(Qf:OGP),(∀r,HasTy TT 55 r→absVl r=absVl x→Qf (.val (.d r)) g)→EvF TT 24 [x] g Qf
 |0,x,g,hk,_=>by omega
 |k+1,x,g,hk,hx=>by
  intro Qf hQ
  refine w24 hx ?_
  obtain⟨i2,m2,a2,rfl,t2⟩:=val_ty hx
  have ey:=t2.els undVals
  have eyl:=ey.1.1
  have hc:=sizeOf_cell (cs:=[.bool i2,.int .i64 m2,a2]) (c:=a2) (by simp)
  have f1:fld (.agg [.bool i2,.int .i64 m2,a2]) 2=a2:=rfl
  refine loopUp (len:=(elsOf a2).length) (λi=>∀(l:List Dat) (z:Dat),l.length=i→(∀y∈l,HasTy TT 55 y)→l.map absVl=((elsOf a2).take i).map absVl→L24_3 l (i:Int) z (.agg [.bool i2,.int .i64 m2,a2]) g Qf) ?_ ?_ 0 (Nat.zero_le _) [] _ rfl (λy h=>by cases h) rfl
  ·intro l z h1 h2 h3
   refine w24_3 ?_
   rw[f1,Br_ge]
   rw[List.take_length] at h3
   have ta:HasTy TT 53 (slOf 3 l):=slOf_ty undVals szVal (by rw[h1];exact ey.1) h2
   refine hQ (.agg [.bool i2,.int .i64 m2,slOf 3 l]) (ty_val ta) ?_
   show Vl.mk i2 m2 (absVlA (slOf 3 l))=Vl.mk i2 m2 (absVlA a2)
   rw[absVlA_map,slOf_els,h3,←absVlA_map]
  ·intro i hi ih l z h1 h2 h3
   refine w24_3 ?_
   rw[f1,Br_lt hi,getE_nat hi]
   have hsz:=sizeOf_el hi
   refine⟨inB hi,copyVal_ok k _ g (by omega) (ey.2 _ (List.getElem_mem hi)) _ λr hr er=>⟨r,hr,rfl,(ey.1.le (by simp;omega)).fits byVal,?_⟩⟩
   rw[wrap_nat (by omega)]
   refine ih _ _ (by simp[h1]) (λy hy=>?_) (take_snoc hi h3 er)
   rcases List.mem_append.1 hy with hy|hy
   ·exact h2 y hy
   ·simp only[List.mem_singleton] at hy;subst hy;exact hr
theorem weighVal_ok:∀(k:Nat) (x:Dat) (g:Glob) (n1 n2:Int),SizeOf.sizeOf x<k→HasTy TT 55 x→∀(Qf:OGP),(∀n:Int,Qf (.val (.d (.int .i64 n))) g)→EvF TT 48 [x,.int .i64 n1,.int .i64 n2] g Qf
 |0,x,g,n1,n2,hk,_=>by omega
 |k+1,x,g,n1,n2,hk,hx=>by
  intro Qf hQ
  refine w48 hx ⟨neZ (by decide),Br_iff.2 ⟨λ_=>hQ _,λ_=>Br_iff.2 ⟨λ_=>hQ _,λ_=>?_⟩⟩⟩
  obtain⟨i2,m2,a2,rfl,t2⟩:=val_ty hx
  have ex:=t2.els undVals
  have exl:=ex.1.1
  have hc:=sizeOf_cell (cs:=[.bool i2,.int .i64 m2,a2]) (c:=a2) (by simp)
  refine loopUp (len:=(elsOf a2).length) (λi=>∀n:Int,L48_5 n1 n (i:Int) (.agg [.bool i2,.int .i64 m2,a2]) g Qf) ?_ ?_ 0 (Nat.zero_le _) _
  ·intro n
   refine w48_5 ?_
   rw[show(fld (Dat.agg [.bool i2,.int .i64 m2,a2]) 2)=a2 from rfl,Br_ge]
   exact hQ _
  ·intro i hi ih n
   refine w48_5 ?_
   rw[show(fld (Dat.agg [.bool i2,.int .i64 m2,a2]) 2)=a2 from rfl,Br_lt hi,getE_nat hi]
   refine Br_iff.2 ⟨λ_=>⟨inB hi,?_⟩,λ_=>hQ _⟩
   have hsz:=sizeOf_el hi
   refine weighVal_ok k _ g _ _ (by omega) (ex.2 _ (List.getElem_mem hi)) _ λn'=>⟨_,rfl,?_⟩
   rw[wrap_nat (by omega)]
   exact ih n'
theorem largeVal_ok(x:Dat)(g:Glob)(hx:HasTy TT 55 x)(Qf:OGP)(hQ:∀b,Qf (.val (.d (.bool b))) g):EvF TT 22 [x] g Qf:=
 w22 hx (weighVal_ok _ x g _ _ (Nat.lt_succ_self _) hx _ λn=>⟨_,rfl,hQ _⟩)
theorem largePat_ok(x:Dat)(g:Glob)(hx:HasTy TT 52 x)(Qf:OGP)(hQ:∀b,Qf (.val (.d (.bool b))) g):EvF TT 41 [x] g Qf:=
 w41 hx (weighPat_ok _ x g _ _ (Nat.lt_succ_self _) hx _ λn=>⟨_,rfl,hQ _⟩)
theorem ty_nilExprs:HasTy TT 23 .nil:=.nil _ (by rw[undExprs];rfl)
theorem ty_nilDecls:HasTy TT 22 .nil:=.nil _ (by rw[undDecls];rfl)
theorem ty_nilPats:HasTy TT 24 .nil:=.nil _ (by rw[undPats];rfl)
theorem large17_ok(l x:Dat)(g:Glob)(hl:HasTy TT 22 l)(hx:HasTy TT 24 x)(Qf:OGP)(hT:Qf (.val (.d (.bool true))) g)(hF:(∀d∈elsOf l,SmDc d)→(elsOf x).length≤60→Qf (.val (.d (.bool false))) g):EvF TT 14 [l,x] g Qf:=by
 refine w14 hl hx ?_
 refine largeDecls_all l g hl _ ⟨_,rfl,hT⟩ λhs=>⟨_,rfl,?_⟩
 rw[Br_false]
 refine Br_iff.2 ⟨λ_=>hT,λq=>?_⟩
 have hn:(elsOf x).length≤60:=by
  have:=of_decide_eq_false q
  omega
 have ex:=hx.els undPats
 refine loopUp (len:=(elsOf x).length) (λi=>∀n:Int,L14_5 x n (i:Int) g Qf) ?_ ?_ 0 (Nat.zero_le _) _
 ·intro n
  refine w14_5 ?_
  rw[Br_ge]
  exact hF hs hn
 ·intro i hi ih n
  refine w14_5 ?_
  rw[Br_lt hi,getE_nat hi]
  have hxi:=ex.2 _ (List.getElem_mem hi)
  refine⟨inB hi,largePat_ok _ g hxi _ λb=>⟨_,rfl,Br_iff.2 ⟨λ_=>hT,λ_=>⟨inB hi,?_⟩⟩⟩⟩
  have hp:HasTy TT 24 (.sl 5 [(elsOf x)[i]]):=sl_ty (xs:=[(elsOf x)[i]]) undPats szPat (fitOf byPat (by omega) (by simp)) (by simpa using hxi)
  refine refSize_ok _ g (ty_prog ty_nilDecls (ty_expr (by simp) (by simp) ty_nilExprs hp)) _ ⟨_,rfl,Br_iff.2 ⟨λ_=>hT,λ_=>?_⟩⟩
  rw[wrap_nat (by omega)]
  exact ih _
end Go.Proofs.YtiheejdkkjfenaaGreatDoor.Pa
