/- What functions of the program do, printed by wip/tools/sx/sx.py. The document's comparisons of trees. What functions of the program do, printed by wip/tools/sx/sx.py. The document's comparison of programs; the program's own. The program's own comparison of programs. What functions of the program do, printed by wip/tools/sx/sx.py. The document's copies; what is too large. Nothing of this layer is asked in this seat. The law ParseSame told: it answers true. -/
import Derived.Test.YtmlghadphdpbjaaGreatDoorRC
set_option linter.all false
set_option autoImplicit false
set_option maxRecDepth 100000
namespace Go.Proofs.YtmlghadphdpbjaaGreatDoor.Pa
open Go Go.Proofs.YtmlghadphdpbjaaGreatDoor.Am
def L39_4(x0:Dat)(x1:Dat)(n5:Int)(g:Glob)(Qf:OGP):Prop:=CutP TT Tryz.f39 [1,1,0,1,0] Qf (mkC TT 39 Tryz.f39 2 [(0,.v 26 (x0)),(1,.v 26 (x1)),(5,.v 3 (.int .i64 n5))] [] g)
def lo39:List CutI:=[⟨4,[(0,.keep),(1,.keep),(5,.keep)],[]⟩]
theorem w39{x0:Dat}{x1:Dat}{g:Glob}{Qf:OGP}(h0:HasTy TT 26 x0)(h1:HasTy TT 26 x1)
 (h:Br ((↑(elsOf x0).length:Int)!=(↑(elsOf x1).length:Int)) (Qf (.val (.d (.bool false))) g) (L39_4 x0 x1 0 g Qf)):
 EvF TT 39 [x0,x1] g Qf:=
 sx_fun (rk:=rk) (fn:=Tryz.f39) (loops:=lo39) (joins:=[]) (n:=100000) (args:=[(26,x0),(26,x1)]) rfl rfl rfl rfl ⟨h0,h1,trivial⟩ (by kernel_rfl) h
theorem w39_4{x0:Dat}{x1:Dat}{n5:Int}{g:Glob}{Qf:OGP}
 (h:Br (decide (n5<(↑(elsOf x0).length:Int))) (InB n5 (elsOf x0).length∧InB n5 (elsOf x1).length∧Br (intOf (fld (getE (elsOf x0) n5) 0)!=intOf (fld (getE (elsOf x1) n5) 0)) (Qf (.val (.d (.bool false))) g) (InB n5 (elsOf x0).length∧InB n5 (elsOf x1).length∧Br (!strOf (fld (getE (elsOf x0) n5) 1)==strOf (fld (getE (elsOf x1) n5) 1)) (Qf (.val (.d (.bool false))) g) (InB n5 (elsOf x0).length∧InB n5 (elsOf x1).length∧Br (intOf (fld (getE (elsOf x0) n5) 2)!=intOf (fld (getE (elsOf x1) n5) 2)) (Qf (.val (.d (.bool false))) g) (InB n5 (elsOf x0).length∧InB n5 (elsOf x1).length∧EvF TT 39 [fld (getE (elsOf x0) n5) 3,fld (getE (elsOf x1) n5) 3] g (KQ Qf λv g'=>∃b,v=.d (.bool b)∧Br (!b) (Qf (.val (.d (.bool false))) g') (L39_4 x0 x1 (IntKind.i64.wrap (n5+1)) g' Qf)))))) (Qf (.val (.d (.bool true))) g)):
 L39_4 x0 x1 n5 g Qf:=sx_cut (rk:=rk) (loops:=lo39) (joins:=[]) (n:=100000) (by kernel_rfl) h
def L85_4(x0:Dat)(x1:Dat)(b2:Bool)(n7:Int)(g:Glob)(Qf:OGP):Prop:=CutP TT Tryz.f85 [1,1,0,1,0] Qf (mkC TT 85 Tryz.f85 3 [(0,.v 23 (x0)),(1,.v 23 (x1)),(2,.v 4 (.bool b2)),(7,.v 3 (.int .i64 n7))] [] g)
def lo85:List CutI:=[⟨4,[(0,.keep),(1,.keep),(2,.keep),(7,.keep)],[]⟩]
theorem w85{x0:Dat}{x1:Dat}{b2:Bool}{g:Glob}{Qf:OGP}(h0:HasTy TT 23 x0)(h1:HasTy TT 23 x1)
 (h:Br ((↑(elsOf x0).length:Int)!=(↑(elsOf x1).length:Int)) (Qf (.val (.d (.bool false))) g) (L85_4 x0 x1 b2 0 g Qf)):
 EvF TT 85 [x0,x1,.bool b2] g Qf:=
 sx_fun (rk:=rk) (fn:=Tryz.f85) (loops:=lo85) (joins:=[]) (n:=100000) (args:=[(23,x0),(23,x1),(4,.bool b2)]) rfl rfl rfl rfl ⟨h0,h1,tyBool rfl,trivial⟩ (by kernel_rfl) h
theorem w85_4{x0:Dat}{x1:Dat}{b2:Bool}{n7:Int}{g:Glob}{Qf:OGP}
 (h:Br (decide (n7<(↑(elsOf x0).length:Int))) (InB n7 (elsOf x0).length∧InB n7 (elsOf x1).length∧Br (intOf (fld (getE (elsOf x0) n7) 0)!=intOf (fld (getE (elsOf x1) n7) 0)) (Qf (.val (.d (.bool false))) g) (Br (!strOf (fld (getE (elsOf x0) n7) 1)==strOf (fld (getE (elsOf x1) n7) 1)) (Qf (.val (.d (.bool false))) g) (Br (intOf (fld (getE (elsOf x0) n7) 2)!=intOf (fld (getE (elsOf x1) n7) 2)) (Qf (.val (.d (.bool false))) g) (Br b2 (Br (intOf (fld (getE (elsOf x0) n7) 4)!=intOf (fld (getE (elsOf x1) n7) 4)) (Qf (.val (.d (.bool false))) g) (EvF TT 85 [fld (getE (elsOf x0) n7) 3,fld (getE (elsOf x1) n7) 3,.bool b2] g (KQ Qf λv g'=>∃b,v=.d (.bool b)∧Br (!b) (Qf (.val (.d (.bool false))) g') (L85_4 x0 x1 b2 (IntKind.i64.wrap (n7+1)) g' Qf)))) (EvF TT 85 [fld (getE (elsOf x0) n7) 3,fld (getE (elsOf x1) n7) 3,.bool b2] g (KQ Qf λv g'=>∃b,v=.d (.bool b)∧Br (!b) (Qf (.val (.d (.bool false))) g') (L85_4 x0 x1 b2 (IntKind.i64.wrap (n7+1)) g' Qf))))))) (Qf (.val (.d (.bool true))) g)):
 L85_4 x0 x1 b2 n7 g Qf:=sx_cut (rk:=rk) (loops:=lo85) (joins:=[]) (n:=100000) (by kernel_rfl) h
def L46_4(x0:Dat)(x1:Dat)(b2:Bool)(n7:Int)(g:Glob)(Qf:OGP):Prop:=CutP TT Tryz.f46 [1,1,0,1,0] Qf (mkC TT 46 Tryz.f46 3 [(0,.v 22 (x0)),(1,.v 22 (x1)),(2,.v 4 (.bool b2)),(7,.v 3 (.int .i64 n7))] [] g)
def lo46:List CutI:=[⟨4,[(0,.keep),(1,.keep),(2,.keep),(7,.keep)],[]⟩]
theorem w46{x0:Dat}{x1:Dat}{b2:Bool}{g:Glob}{Qf:OGP}(h0:HasTy TT 22 x0)(h1:HasTy TT 22 x1)
 (h:Br ((↑(elsOf x0).length:Int)!=(↑(elsOf x1).length:Int)) (Qf (.val (.d (.bool false))) g) (L46_4 x0 x1 b2 0 g Qf)):
 EvF TT 46 [x0,x1,.bool b2] g Qf:=
 sx_fun (rk:=rk) (fn:=Tryz.f46) (loops:=lo46) (joins:=[]) (n:=100000) (args:=[(22,x0),(22,x1),(4,.bool b2)]) rfl rfl rfl rfl ⟨h0,h1,tyBool rfl,trivial⟩ (by kernel_rfl) h
theorem w46_4{x0:Dat}{x1:Dat}{b2:Bool}{n7:Int}{g:Glob}{Qf:OGP}
 (h:Br (decide (n7<(↑(elsOf x0).length:Int))) (InB n7 (elsOf x0).length∧InB n7 (elsOf x1).length∧Br (intOf (fld (getE (elsOf x0) n7) 0)!=intOf (fld (getE (elsOf x1) n7) 0)) (Qf (.val (.d (.bool false))) g) (Br (!strOf (fld (getE (elsOf x0) n7) 1)==strOf (fld (getE (elsOf x1) n7) 1)) (Qf (.val (.d (.bool false))) g) (Br (!strOf (fld (getE (elsOf x0) n7) 2)==strOf (fld (getE (elsOf x1) n7) 2)) (Qf (.val (.d (.bool false))) g) (Br (intOf (fld (getE (elsOf x0) n7) 3)!=intOf (fld (getE (elsOf x1) n7) 3)) (Qf (.val (.d (.bool false))) g) (Br b2 (Br (intOf (fld (getE (elsOf x0) n7) 6)!=intOf (fld (getE (elsOf x1) n7) 6)) (Qf (.val (.d (.bool false))) g) (EvF TT 85 [fld (getE (elsOf x0) n7) 5,fld (getE (elsOf x1) n7) 5,.bool b2] g (KQ Qf λv g'=>∃b,v=.d (.bool b)∧Br (!b) (Qf (.val (.d (.bool false))) g') (EvF TT 46 [fld (getE (elsOf x0) n7) 4,fld (getE (elsOf x1) n7) 4,.bool b2] g' (KQ Qf λv g'=>∃b,v=.d (.bool b)∧Br (!b) (Qf (.val (.d (.bool false))) g') (L46_4 x0 x1 b2 (IntKind.i64.wrap (n7+1)) g' Qf)))))) (EvF TT 85 [fld (getE (elsOf x0) n7) 5,fld (getE (elsOf x1) n7) 5,.bool b2] g (KQ Qf λv g'=>∃b,v=.d (.bool b)∧Br (!b) (Qf (.val (.d (.bool false))) g') (EvF TT 46 [fld (getE (elsOf x0) n7) 4,fld (getE (elsOf x1) n7) 4,.bool b2] g' (KQ Qf λv g'=>∃b,v=.d (.bool b)∧Br (!b) (Qf (.val (.d (.bool false))) g') (L46_4 x0 x1 b2 (IntKind.i64.wrap (n7+1)) g' Qf)))))))))) (Qf (.val (.d (.bool true))) g)):
 L46_4 x0 x1 b2 n7 g Qf:=sx_cut (rk:=rk) (loops:=lo46) (joins:=[]) (n:=100000) (by kernel_rfl) h
def L45_4(x0:Dat)(x1:Dat)(b2:Bool)(n7:Int)(g:Glob)(Qf:OGP):Prop:=CutP TT Tryz.f45 [1,1,0,1,0] Qf (mkC TT 45 Tryz.f45 3 [(0,.v 42 (x0)),(1,.v 42 (x1)),(2,.v 4 (.bool b2)),(7,.v 3 (.int .i64 n7))] [] g)
def L45_10(x0:Dat)(x1:Dat)(b2:Bool)(n7:Int)(n10:Int)(y9:Dat)(y8:Dat)(g:Glob)(Qf:OGP):Prop:=CutP TT Tryz.f45 [1,1,0,1,0,0,1,0,0,1,1,0,1,0] Qf (mkC TT 45 Tryz.f45 3 [(0,.v 42 (x0)),(1,.v 42 (x1)),(2,.v 4 (.bool b2)),(7,.v 3 (.int .i64 n7)),(8,.loc 8 0 0),(9,.loc 9 0 0),(10,.v 3 (.int .i64 n10))] [(9,.whole 50 y9),(8,.whole 50 y8)] g)
def L45_15(x0:Dat)(x1:Dat)(b2:Bool)(n7:Int)(n11:Int)(y9:Dat)(y8:Dat)(g:Glob)(Qf:OGP):Prop:=CutP TT Tryz.f45 [1,1,0,1,0,0,1,0,0,1,1,1,1,0] Qf (mkC TT 45 Tryz.f45 3 [(0,.v 42 (x0)),(1,.v 42 (x1)),(2,.v 4 (.bool b2)),(7,.v 3 (.int .i64 n7)),(8,.loc 8 0 0),(9,.loc 9 0 0),(11,.v 3 (.int .i64 n11))] [(9,.whole 50 y9),(8,.whole 50 y8)] g)
def lo45:List CutI:=[⟨4,[(0,.keep),(1,.keep),(2,.keep),(7,.keep)],[]⟩,⟨10,[(0,.keep),(1,.keep),(2,.keep),(7,.keep),(8,.keep),(9,.keep),(10,.keep)],[(9,.whole 50),(8,.whole 50)]⟩,⟨15,[(0,.keep),(1,.keep),(2,.keep),(7,.keep),(8,.keep),(9,.keep),(11,.keep)],[(9,.whole 50),(8,.whole 50)]⟩]
theorem w45{x0:Dat}{x1:Dat}{b2:Bool}{g:Glob}{Qf:OGP}(h0:HasTy TT 42 x0)(h1:HasTy TT 42 x1)
 (h:Br ((↑(elsOf x0).length:Int)!=(↑(elsOf x1).length:Int)) (Qf (.val (.d (.bool false))) g) (L45_4 x0 x1 b2 0 g Qf)):
 EvF TT 45 [x0,x1,.bool b2] g Qf:=
 sx_fun (rk:=rk) (fn:=Tryz.f45) (loops:=lo45) (joins:=[]) (n:=100000) (args:=[(42,x0),(42,x1),(4,.bool b2)]) rfl rfl rfl rfl ⟨h0,h1,tyBool rfl,trivial⟩ (by kernel_rfl) h
theorem w45_4{x0:Dat}{x1:Dat}{b2:Bool}{n7:Int}{g:Glob}{Qf:OGP}
 (h:Br (decide (n7<(↑(elsOf x0).length:Int))) (InB n7 (elsOf x0).length∧InB n7 (elsOf x1).length∧Br (!strOf (fld (getE (elsOf x0) n7) 0)==strOf (fld (getE (elsOf x1) n7) 0)) (Qf (.val (.d (.bool false))) g) (Br b2 (Br (intOf (fld (getE (elsOf x0) n7) 3)!=intOf (fld (getE (elsOf x1) n7) 3)) (Qf (.val (.d (.bool false))) g) (Br ((↑(elsOf (fld (getE (elsOf x0) n7) 1)).length:Int)!=(↑(elsOf (fld (getE (elsOf x1) n7) 1)).length:Int)) (Qf (.val (.d (.bool false))) g) (Br ((↑(elsOf (fld (getE (elsOf x0) n7) 2)).length:Int)!=(↑(elsOf (fld (getE (elsOf x1) n7) 2)).length:Int)) (Qf (.val (.d (.bool false))) g) (L45_10 x0 x1 b2 n7 0 (getE (elsOf x1) n7) (getE (elsOf x0) n7) g Qf)))) (Br ((↑(elsOf (fld (getE (elsOf x0) n7) 1)).length:Int)!=(↑(elsOf (fld (getE (elsOf x1) n7) 1)).length:Int)) (Qf (.val (.d (.bool false))) g) (Br ((↑(elsOf (fld (getE (elsOf x0) n7) 2)).length:Int)!=(↑(elsOf (fld (getE (elsOf x1) n7) 2)).length:Int)) (Qf (.val (.d (.bool false))) g) (L45_10 x0 x1 b2 n7 0 (getE (elsOf x1) n7) (getE (elsOf x0) n7) g Qf))))) (Qf (.val (.d (.bool true))) g)):
 L45_4 x0 x1 b2 n7 g Qf:=sx_cut (rk:=rk) (loops:=lo45) (joins:=[]) (n:=100000) (by kernel_rfl) h
theorem w45_10{x0:Dat}{x1:Dat}{b2:Bool}{n7:Int}{n10:Int}{y9:Dat}{y8:Dat}{g:Glob}{Qf:OGP}
 (h:Br (decide (n10<(↑(elsOf (fld y8 1)).length:Int))) (InB n10 (elsOf (fld y8 1)).length∧InB n10 (elsOf (fld y9 1)).length∧Br (!strOf (fld (getE (elsOf (fld y8 1)) n10) 0)==strOf (fld (getE (elsOf (fld y9 1)) n10) 0)) (Qf (.val (.d (.bool false))) g) (L45_10 x0 x1 b2 n7 (IntKind.i64.wrap (n10+1)) y9 y8 g Qf)) (L45_15 x0 x1 b2 n7 0 y9 y8 g Qf)):
 L45_10 x0 x1 b2 n7 n10 y9 y8 g Qf:=sx_cut (rk:=rk) (loops:=lo45) (joins:=[]) (n:=100000) (by kernel_rfl) h
theorem w45_15{x0:Dat}{x1:Dat}{b2:Bool}{n7:Int}{n11:Int}{y9:Dat}{y8:Dat}{g:Glob}{Qf:OGP}
 (h:Br (decide (n11<(↑(elsOf (fld y8 2)).length:Int))) (InB n11 (elsOf (fld y8 2)).length∧InB n11 (elsOf (fld y9 2)).length∧Br (!strOf (fld (getE (elsOf (fld y8 2)) n11) 0)==strOf (fld (getE (elsOf (fld y9 2)) n11) 0)) (Qf (.val (.d (.bool false))) g) (InB n11 (elsOf (fld y8 2)).length∧InB n11 (elsOf (fld y9 2)).length∧EvF TT 39 [fld (getE (elsOf (fld y8 2)) n11) 1,fld (getE (elsOf (fld y9 2)) n11) 1] g (KQ Qf λv g'=>∃b,v=.d (.bool b)∧Br (!b) (Qf (.val (.d (.bool false))) g') (L45_15 x0 x1 b2 n7 (IntKind.i64.wrap (n11+1)) y9 y8 g' Qf)))) (L45_4 x0 x1 b2 (IntKind.i64.wrap (n7+1)) g Qf)):
 L45_15 x0 x1 b2 n7 n11 y9 y8 g Qf:=sx_cut (rk:=rk) (loops:=lo45) (joins:=[]) (n:=100000) (by kernel_rfl) h
def lo23:List CutI:=[]
theorem w23{x0:Dat}{x1:Dat}{b2:Bool}{g:Glob}{Qf:OGP}(h0:HasTy TT 44 x0)(h1:HasTy TT 44 x1)
 (h:EvF TT 45 [fld x0 0,fld x1 0,.bool b2] g (KQ Qf λv g'=>∃b,v=.d (.bool b)∧Br b (EvF TT 46 [.sl 7 [sub x0 1 7],.sl 7 [sub x1 1 7],.bool b2] g' (KQ Qf λv g'=>∃b,v=.d (.bool b)∧Qf (.val (.d (.bool b))) g')) (Qf (.val (.d (.bool false))) g'))):
 EvF TT 23 [x0,x1,.bool b2] g Qf:=
 sx_fun (rk:=rk) (fn:=Tryz.f23) (loops:=lo23) (joins:=[]) (n:=100000) (args:=[(44,x0),(44,x1),(4,.bool b2)]) rfl rfl rfl rfl ⟨h0,h1,tyBool rfl,trivial⟩ (by kernel_rfl) h
end Go.Proofs.YtmlghadphdpbjaaGreatDoor.Pa
namespace Go.Proofs.YtmlghadphdpbjaaGreatDoor.Pa
open Go Go.Proofs.YtmlghadphdpbjaaGreatDoor.Am
theorem ne_false{n m:Nat}(h:n=m):((n:Int)!=(m:Int))=false:=by simp[h]
theorem ne_true{n m:Nat}(h:n≠m):((n:Int)!=(m:Int))=true:=by simp;omega
theorem sameTypes_ok:∀(k:Nat) (x y:Dat) (g:Glob),SizeOf.sizeOf x<k→HasTy TT 26 x→HasTy TT 26 y→∀(Qf:OGP),Qf (.val (.d (.bool (eqTys (absTyA x) (absTyA y))))) g→EvF TT 39 [x,y] g Qf
 |0,x,y,g,hk,_,_=>by omega
 |k+1,x,y,g,hk,hx,hy=>by
  have ex:=hx.els undTypes
  have exl:=ex.1.1
  have ey:=hy.els undTypes
  rw[eqTys_by,absTyA_map,absTyA_map,eqBy_map]
  intro Qf hQ
  refine w39 hx hy ?_
  by_cases hl:(elsOf x).length=(elsOf y).length
  ·rw[ne_false hl,Br_false]
   generalize hR:eqBy (λa b=>eqTy (absTy a) (absTy b)) (elsOf x) (elsOf y)=R at hQ
   refine loopUp (len:=(elsOf x).length) (λi=>eqBy (λa b=>eqTy (absTy a) (absTy b)) ((elsOf x).drop i) ((elsOf y).drop i)=R→L39_4 x y (i:Int) g Qf) ?_ ?_ 0 (Nat.zero_le _) hR
   ·intro h
    rw[List.drop_length,hl,List.drop_length] at h
    refine w39_4 ?_
    rw[Br_ge]
    subst h
    exact hQ
   ·intro i hi ih h
    have hj:i<(elsOf y).length:=by omega
    refine w39_4 ?_
    rw[Br_lt hi,getE_nat hi,getE_nat hj]
    rw[eqBy_drop hi hj] at h
    have hsz:=sizeOf_el hi
    obtain⟨k1,s1,n1,a1,e1,_,t1⟩:=type_ty (ex.2 _ (List.getElem_mem hi))
    obtain⟨k2,s2,n2,a2,e2,_,t2⟩:=type_ty (ey.2 _ (List.getElem_mem hj))
    rw[e1] at hsz h⊢
    rw[e2] at h⊢
    have hc:SizeOf.sizeOf a1<k:=by have:=sizeOf_cell (cs:=[.int .i64 k1,.str s1,.int .i64 n1,a1]) (c:=a1) (by simp);omega
    simp only[absTy,eqTy] at h
    refine⟨inB hi,inB hj,Br_iff.2 ⟨λq=>?_,λq=>⟨inB hi,inB hj,Br_iff.2 ⟨λq'=>?_,λq'=>⟨inB hi,inB hj,Br_iff.2 ⟨λq''=>?_,λq''=>⟨inB hi,inB hj,?_⟩⟩⟩⟩⟩⟩⟩
    all_goals simp[fld,nth,intOf,strOf] at q
    ·exact(by rw[←h];simp[q]:R=false)▸hQ
    all_goals simp[fld,nth,intOf,strOf] at q'
    ·exact(by rw[←h];simp[q']:R=false)▸hQ
    all_goals simp[fld,nth,intOf,strOf] at q''
    ·exact(by rw[←h];simp[q'']:R=false)▸hQ
    subst q q' q''
    simp only[beq_self_eq_true,Bool.true_and] at h
    refine sameTypes_ok k a1 a2 g hc t1 t2 _ ⟨_,rfl,Br_iff.2 ⟨λq=>?_,λq=>?_⟩⟩
    ·exact(by rw[←h];simp at q;simp[q]:R=false)▸hQ
    ·rw[wrap_nat (by omega)]
     refine ih ?_
     rw[←h]
     simp at q
     simp[q]
  ·rw[ne_true hl,Br_true]
   rw[eqBy_len hl] at hQ
   exact hQ
theorem samePats_ok(pl:Bool):∀(k:Nat) (x y:Dat) (g:Glob),SizeOf.sizeOf x<k→HasTy TT 23 x→HasTy TT 23 y→∀(Qf:OGP),Qf (.val (.d (.bool (eqPts pl (absPtA x) (absPtA y))))) g→EvF TT 85 [x,y,.bool pl] g Qf
 |0,x,y,g,hk,_,_=>by omega
 |k+1,x,y,g,hk,hx,hy=>by
  have ex:=hx.els undPats
  have exl:=ex.1.1
  have ey:=hy.els undPats
  rw[eqPts_by,absPtA_map,absPtA_map,eqBy_map]
  intro Qf hQ
  refine w85 hx hy ?_
  by_cases hl:(elsOf x).length=(elsOf y).length
  ·rw[ne_false hl,Br_false]
   generalize hR:eqBy (λa b=>eqPt pl (absPt a) (absPt b)) (elsOf x) (elsOf y)=R at hQ
   refine loopUp (len:=(elsOf x).length) (λi=>eqBy (λa b=>eqPt pl (absPt a) (absPt b)) ((elsOf x).drop i) ((elsOf y).drop i)=R→L85_4 x y pl (i:Int) g Qf) ?_ ?_ 0 (Nat.zero_le _) hR
   ·intro h
    rw[List.drop_length,hl,List.drop_length] at h
    refine w85_4 ?_
    rw[Br_ge]
    subst h
    exact hQ
   ·intro i hi ih h
    have hj:i<(elsOf y).length:=by omega
    refine w85_4 ?_
    rw[Br_lt hi,getE_nat hi,getE_nat hj]
    rw[eqBy_drop hi hj] at h
    have hsz:=sizeOf_el hi
    obtain⟨k1,s1,n1,a1,p1,e1,_,t1⟩:=pat_ty (ex.2 _ (List.getElem_mem hi))
    obtain⟨k2,s2,n2,a2,p2,e2,_,t2⟩:=pat_ty (ey.2 _ (List.getElem_mem hj))
    rw[e1] at hsz h⊢
    rw[e2] at h⊢
    have hc:SizeOf.sizeOf a1<k:=by have:=sizeOf_cell (cs:=[.int .i64 k1,.str s1,.int .i64 n1,a1,.int .i64 p1]) (c:=a1) (by simp);omega
    simp only[absPt,eqPt] at h
    refine⟨inB hi,inB hj,Br_iff.2 ⟨λq=>?_,λq=>Br_iff.2 ⟨λq'=>?_,λq'=>Br_iff.2 ⟨λq''=>?_,λq''=>?_⟩⟩⟩⟩
    all_goals simp[fld,nth,intOf,strOf] at q
    ·exact(by rw[←h];simp[q]:R=false)▸hQ
    all_goals simp[fld,nth,intOf,strOf] at q'
    ·exact(by rw[←h];simp[q']:R=false)▸hQ
    all_goals simp[fld,nth,intOf,strOf] at q''
    ·exact(by rw[←h];simp[q'']:R=false)▸hQ
    subst q q' q''
    simp only[beq_self_eq_true,Bool.true_and] at h
    have fin:(!pl||p1==p2)=true→EvF TT 85 [a1,a2,Dat.bool pl] g (KQ Qf λv g'=>∃b,v=Val.d (Dat.bool b)∧Br (!b) (Qf (Out.val (Val.d (Dat.bool false))) g') (L85_4 x y pl (IntKind.i64.wrap ((i:Int)+1)) g' Qf)):=by
     intro hp
     simp only[hp,Bool.true_and] at h
     refine samePats_ok pl k a1 a2 g hc t1 t2 _ ⟨_,rfl,Br_iff.2 ⟨λq=>?_,λq=>?_⟩⟩
     ·exact(by rw[←h];simp at q;simp[q]:R=false)▸hQ
     ·rw[wrap_nat (by omega)]
      refine ih ?_
      rw[←h]
      simp at q
      simp[q]
    refine Br_iff.2 ⟨λhp=>Br_iff.2 ⟨λq=>?_,λq=>fin ?_⟩,λhp=>fin (by simp[hp])⟩
    ·simp[fld,nth,intOf] at q
     exact(by rw[←h];simp[hp,q]:R=false)▸hQ
    ·simp[fld,nth,intOf] at q
     simp[q]
  ·rw[ne_true hl,Br_true]
   rw[eqBy_len hl] at hQ
   exact hQ
theorem sameExprs_ok(pl:Bool):∀(k:Nat) (x y:Dat) (g:Glob),SizeOf.sizeOf x<k→HasTy TT 22 x→HasTy TT 22 y→∀(Qf:OGP),Qf (.val (.d (.bool (eqExs pl (absExA x) (absExA y))))) g→EvF TT 46 [x,y,.bool pl] g Qf
 |0,x,y,g,hk,_,_=>by omega
 |k+1,x,y,g,hk,hx,hy=>by
  have ex:=hx.els undExprs
  have exl:=ex.1.1
  have ey:=hy.els undExprs
  rw[eqExs_by,absExA_map,absExA_map,eqBy_map]
  intro Qf hQ
  refine w46 hx hy ?_
  by_cases hl:(elsOf x).length=(elsOf y).length
  ·rw[ne_false hl,Br_false]
   generalize hR:eqBy (λa b=>eqEx pl (absEx a) (absEx b)) (elsOf x) (elsOf y)=R at hQ
   refine loopUp (len:=(elsOf x).length) (λi=>eqBy (λa b=>eqEx pl (absEx a) (absEx b)) ((elsOf x).drop i) ((elsOf y).drop i)=R→L46_4 x y pl (i:Int) g Qf) ?_ ?_ 0 (Nat.zero_le _) hR
   ·intro h
    rw[List.drop_length,hl,List.drop_length] at h
    refine w46_4 ?_
    rw[Br_ge]
    subst h
    exact hQ
   ·intro i hi ih h
    have hj:i<(elsOf y).length:=by omega
    refine w46_4 ?_
    rw[Br_lt hi,getE_nat hi,getE_nat hj]
    rw[eqBy_drop hi hj] at h
    have hsz:=sizeOf_el hi
    obtain⟨k1,s1,r1,n1,a1,b1,p1,e1,_,_,t1,u1⟩:=expr_ty (ex.2 _ (List.getElem_mem hi))
    obtain⟨k2,s2,r2,n2,a2,b2,p2,e2,_,_,t2,u2⟩:=expr_ty (ey.2 _ (List.getElem_mem hj))
    rw[e1] at hsz h⊢
    rw[e2] at h⊢
    have hc:SizeOf.sizeOf a1<k:=by have:=sizeOf_cell (cs:=[.int .i64 k1,.str s1,.str r1,.int .i64 n1,a1,b1,.int .i64 p1]) (c:=a1) (by simp);omega
    simp only[absEx,eqEx] at h
    refine⟨inB hi,inB hj,Br_iff.2 ⟨λq=>?_,λq=>Br_iff.2 ⟨λq'=>?_,λq'=>Br_iff.2 ⟨λq''=>?_,λq''=>Br_iff.2 ⟨λq3=>?_,λq3=>?_⟩⟩⟩⟩⟩
    all_goals simp[fld,nth,intOf,strOf] at q
    ·exact(by rw[←h];simp[q]:R=false)▸hQ
    all_goals simp[fld,nth,intOf,strOf] at q'
    ·exact(by rw[←h];simp[q']:R=false)▸hQ
    all_goals simp[fld,nth,intOf,strOf] at q''
    ·exact(by rw[←h];simp[q'']:R=false)▸hQ
    all_goals simp[fld,nth,intOf,strOf] at q3
    ·exact(by rw[←h];simp[q3]:R=false)▸hQ
    subst q q' q'' q3
    simp only[beq_self_eq_true,Bool.true_and] at h
    have fin:(!pl||p1==p2)=true→EvF TT 85 [b1,b2,Dat.bool pl] g (KQ Qf λv g'=>∃b,v=Val.d (Dat.bool b)∧Br (!b) (Qf (Out.val (Val.d (Dat.bool false))) g') (EvF TT 46 [a1,a2,Dat.bool pl] g' (KQ Qf λv g'=>∃b,v=Val.d (Dat.bool b)∧Br (!b) (Qf (Out.val (Val.d (Dat.bool false))) g') (L46_4 x y pl (IntKind.i64.wrap ((i:Int)+1)) g' Qf)))):=by
     intro hp
     simp only[hp,Bool.true_and] at h
     refine samePats_ok pl _ b1 b2 g (Nat.lt_succ_self _) u1 u2 _ ⟨_,rfl,Br_iff.2 ⟨λq=>?_,λq=>?_⟩⟩
     ·exact(by rw[←h];simp at q;simp[q]:R=false)▸hQ
     ·refine sameExprs_ok pl k a1 a2 g hc t1 t2 _ ⟨_,rfl,Br_iff.2 ⟨λq'=>?_,λq'=>?_⟩⟩
      ·exact(by rw[←h];simp at q';simp[q']:R=false)▸hQ
      ·rw[wrap_nat (by omega)]
       refine ih ?_
       rw[←h]
       simp at q q'
       simp[q,q']
    refine Br_iff.2 ⟨λhp=>Br_iff.2 ⟨λq=>?_,λq=>fin ?_⟩,λhp=>fin (by simp[hp])⟩
    ·simp[fld,nth,intOf] at q
     exact(by rw[←h];simp[hp,q]:R=false)▸hQ
    ·simp[fld,nth,intOf] at q
     simp[q]
  ·rw[ne_true hl,Br_true]
   rw[eqBy_len hl] at hQ
   exact hQ
end Go.Proofs.YtmlghadphdpbjaaGreatDoor.Pa
namespace Go.Proofs.YtmlghadphdpbjaaGreatDoor.Pa
open Go Go.Proofs.YtmlghadphdpbjaaGreatDoor.Am
end Go.Proofs.YtmlghadphdpbjaaGreatDoor.Pa
namespace Go.Proofs.YtmlghadphdpbjaaGreatDoor.Pa
open Go Go.Proofs.YtmlghadphdpbjaaGreatDoor.Am
def eqCn(c d:Cn):Bool:=c.s==d.s&&eqTys c.fs d.fs
def eqDc(pl:Bool)(c d:Dc):Bool:=c.s==d.s&&((!pl||c.p==d.p)&&(eqBy (λa b=>a==b) c.ps d.ps&&eqBy eqCn c.cs d.cs))
def eqPg(pl:Bool)(p q:Pg):Bool:=eqBy (eqDc pl) p.ds q.ds&&eqEx pl p.e q.e
theorem absDc_agg(s:Str)(a b:Dat)(k:IntKind)(p:Int):absDc (.agg [.str s,a,b,.int k p])=⟨s,(elsOf a).map strOf,(elsOf b).map absCn,p⟩:=rfl
theorem absCn_agg(s:Str)(a:Dat):absCn (.agg [.str s,a])=⟨s,absTyA a⟩:=rfl
theorem eqDc_mk(pl:Bool)(s s':Str)(a a':List Str)(b b':List Cn)(p p':Int):eqDc pl ⟨s,a,b,p⟩ ⟨s',a',b',p'⟩=(s==s'&&((!pl||p==p')&&(eqBy (λa b=>a==b) a a'&&eqBy eqCn b b'))):=rfl
theorem eqCn_mk(s s':Str)(a a':List Ty):eqCn ⟨s,a⟩ ⟨s',a'⟩=(s==s'&&eqTys a a'):=rfl
theorem len_le{x:Dat}{t u:TypeId}(hu:TT.und t=some (.slice u))(hx:HasTy TT t x):(elsOf x).length≤2^40:=(hx.els hu).1.1
theorem declsOk(pl:Bool)(x y:Dat)(g:Glob)(hx:HasTy TT 42 x)(hy:HasTy TT 42 y)(Qf:OGP)(hQ:Qf (.val (.d (.bool (eqBy (eqDc pl) ((elsOf x).map absDc) ((elsOf y).map absDc))))) g):EvF TT 45 [x,y,.bool pl] g Qf:=by
 have ex:=hx.els undDecls
 have ey:=hy.els undDecls
 have exl:=ex.1.1
 rw[eqBy_map] at hQ
 refine w45 hx hy ?_
 by_cases hl:(elsOf x).length=(elsOf y).length
 ·rw[ne_false hl,Br_false]
  generalize hR:eqBy (λa b=>eqDc pl (absDc a) (absDc b)) (elsOf x) (elsOf y)=R at hQ
  refine loopUp (len:=(elsOf x).length) (λi=>eqBy (λa b=>eqDc pl (absDc a) (absDc b)) ((elsOf x).drop i) ((elsOf y).drop i)=R→L45_4 x y pl (i:Int) g Qf) ?_ ?_ 0 (Nat.zero_le _) hR
  ·intro h
   rw[List.drop_length,hl,List.drop_length] at h
   refine w45_4 ?_
   rw[Br_ge]
   subst h
   exact hQ
  ·intro i hi ih h
   have hj:i<(elsOf y).length:=by omega
   refine w45_4 ?_
   rw[Br_lt hi,getE_nat hi,getE_nat hj]
   rw[eqBy_drop hi hj] at h
   obtain⟨s1,a1,b1,p1,e1,_,ta1,tb1⟩:=decl_ty (ex.2 _ (List.getElem_mem hi))
   obtain⟨s2,a2,b2,p2,e2,_,ta2,tb2⟩:=decl_ty (ey.2 _ (List.getElem_mem hj))
   rw[e1] at h⊢
   rw[e2] at h⊢
   have ea1:=ta1.els undStrs
   have ea2:=ta2.els undStrs
   have eb1:=tb1.els undCons
   have eb2:=tb2.els undCons
   have la1:=ea1.1.1
   have lb1:=eb1.1.1
   simp only[absDc_agg,eqDc_mk] at h
   refine⟨inB hi,inB hj,Br_iff.2 ⟨λq=>?_,λq=>?_⟩⟩
   all_goals simp[fld,nth,strOf] at q
   ·exact(by rw[←h];simp[q]:R=false)▸hQ
   subst q
   simp only[beq_self_eq_true,Bool.true_and] at h
   -- what follows,when the places are alike
   have cons:(!pl||p1==p2)=true→(elsOf b1).length=(elsOf b2).length→eqBy (λa b=>a==b) ((elsOf a1).map strOf) ((elsOf a2).map strOf)=true→
    L45_15 x y pl (i:Int) 0 (.agg [.str s1,a2,b2,.int .i64 p2]) (.agg [.str s1,a1,b1,.int .i64 p1]) g Qf:=by
    intro hp hlb ha
    rw[hp,ha] at h
    simp only[Bool.true_and] at h
    rw[eqBy_map] at h
    generalize hR2:eqBy (λa b=>eqCn (absCn a) (absCn b)) (elsOf b1) (elsOf b2)=R2 at h
    refine loopUp (len:=(elsOf b1).length) (λj=>eqBy (λa b=>eqCn (absCn a) (absCn b)) ((elsOf b1).drop j) ((elsOf b2).drop j)=R2→L45_15 x y pl (i:Int) (j:Int) (.agg [.str s1,a2,b2,.int .i64 p2]) (.agg [.str s1,a1,b1,.int .i64 p1]) g Qf) ?_ ?_ 0 (Nat.zero_le _) hR2
    ·intro h2
     rw[List.drop_length,hlb,List.drop_length] at h2
     refine w45_15 ?_
     rw[show(fld (Dat.agg [.str s1,a1,b1,.int .i64 p1]) 2)=b1 from rfl,Br_ge]
     rw[wrap_nat (by omega)]
     refine ih ?_
     rw[←h,←h2]
     rfl
    ·intro j hj1 ih2 h2
     have hj2:j<(elsOf b2).length:=by omega
     refine w45_15 ?_
     rw[show(fld (Dat.agg [.str s1,a1,b1,.int .i64 p1]) 2)=b1 from rfl,show(fld (Dat.agg [.str s1,a2,b2,.int .i64 p2]) 2)=b2 from rfl,Br_lt hj1,getE_nat hj1,getE_nat hj2]
     rw[eqBy_drop hj1 hj2] at h2
     obtain⟨t1,f1,d1,_,tf1⟩:=con_ty (eb1.2 _ (List.getElem_mem hj1))
     obtain⟨t2,f2,d2,_,tf2⟩:=con_ty (eb2.2 _ (List.getElem_mem hj2))
     rw[d1] at h2⊢
     rw[d2] at h2⊢
     simp only[absCn_agg,eqCn_mk] at h2
     refine⟨inB hj1,inB hj2,Br_iff.2 ⟨λq=>?_,λq=>⟨inB hj1,inB hj2,?_⟩⟩⟩
     all_goals simp[fld,nth,strOf] at q
     ·exact(by rw[←h,←h2];simp[q]:R=false)▸hQ
     subst q
     simp only[beq_self_eq_true,Bool.true_and] at h2
     refine sameTypes_ok _ f1 f2 g (Nat.lt_succ_self _) tf1 tf2 _ ⟨_,rfl,Br_iff.2 ⟨λq=>?_,λq=>?_⟩⟩
     ·exact(by rw[←h,←h2];simp at q;simp[q]:R=false)▸hQ
     ·rw[wrap_nat (by omega)]
      refine ih2 ?_
      rw[←h2]
      simp at q
      simp[q]
   have pars:(!pl||p1==p2)=true→(elsOf a1).length=(elsOf a2).length→(elsOf b1).length=(elsOf b2).length→
     L45_10 x y pl (i:Int) 0 (.agg [.str s1,a2,b2,.int .i64 p2]) (.agg [.str s1,a1,b1,.int .i64 p1]) g Qf:=by
    intro hp hla hlb
    generalize hR2:eqBy (λa b=>a==b) ((elsOf a1).map strOf) ((elsOf a2).map strOf)=R2 at h cons
    rw[eqBy_map] at hR2
    refine loopUp (len:=(elsOf a1).length) (λj=>eqBy (λa b=>strOf a==strOf b) ((elsOf a1).drop j) ((elsOf a2).drop j)=R2→L45_10 x y pl (i:Int) (j:Int) (.agg [.str s1,a2,b2,.int .i64 p2]) (.agg [.str s1,a1,b1,.int .i64 p1]) g Qf) ?_ ?_ 0 (Nat.zero_le _) hR2
    ·intro h2
     rw[List.drop_length,hla,List.drop_length] at h2
     refine w45_10 ?_
     rw[show(fld (Dat.agg [.str s1,a1,b1,.int .i64 p1]) 1)=a1 from rfl,Br_ge]
     exact cons hp hlb (by rw[←h2];rfl)
    ·intro j hj1 ih2 h2
     have hj2:j<(elsOf a2).length:=by omega
     refine w45_10 ?_
     rw[show(fld (Dat.agg [.str s1,a1,b1,.int .i64 p1]) 1)=a1 from rfl,show(fld (Dat.agg [.str s1,a2,b2,.int .i64 p2]) 1)=a2 from rfl,Br_lt hj1,getE_nat hj1,getE_nat hj2]
     rw[eqBy_drop hj1 hj2] at h2
     obtain⟨t1,d1,_⟩:=str_ty (ea1.2 _ (List.getElem_mem hj1))
     obtain⟨t2,d2,_⟩:=str_ty (ea2.2 _ (List.getElem_mem hj2))
     rw[d1] at h2⊢
     rw[d2] at h2⊢
     simp only[strOf] at h2
     refine⟨inB hj1,inB hj2,Br_iff.2 ⟨λq=>?_,λq=>?_⟩⟩
     all_goals simp[fld,strOf] at q
     ·exact(by rw[←h,←h2];simp[q]:R=false)▸hQ
     subst q
     simp only[beq_self_eq_true,Bool.true_and] at h2
     rw[wrap_nat (by omega)]
     exact ih2 h2
   have lens:(!pl||p1==p2)=true→Br ((↑(elsOf a1).length:Int)!=(↑(elsOf a2).length:Int)) (Qf (Out.val (Val.d (Dat.bool false))) g) (Br ((↑(elsOf b1).length:Int)!=(↑(elsOf b2).length:Int)) (Qf (Out.val (Val.d (Dat.bool false))) g) (L45_10 x y pl (i:Int) 0 (.agg [.str s1,a2,b2,.int .i64 p2]) (.agg [.str s1,a1,b1,.int .i64 p1]) g Qf)):=by
    intro hp
    by_cases h1:(elsOf a1).length=(elsOf a2).length
    ·rw[ne_false h1,Br_false]
     by_cases h2:(elsOf b1).length=(elsOf b2).length
     ·rw[ne_false h2,Br_false]
      exact pars hp h1 h2
     ·rw[ne_true h2,Br_true]
      exact(by rw[←h,eqBy_len (f:=eqCn) (by simpa using h2)];simp:R=false)▸hQ
    ·rw[ne_true h1,Br_true]
     exact(by rw[←h,eqBy_len (f:=λa b=>a==b) (by simpa using h1)];simp:R=false)▸hQ
   refine Br_iff.2 ⟨λhp=>Br_iff.2 ⟨λq=>?_,λq=>lens ?_⟩,λhp=>lens (by simp[hp])⟩
   ·simp[fld,nth,intOf] at q
    exact(by rw[←h];simp[hp,q]:R=false)▸hQ
   ·simp[fld,nth,intOf] at q
    simp[q]
 ·rw[ne_true hl,Br_true]
  rw[eqBy_len hl] at hQ
  exact hQ
theorem one_expr{x:Dat}(hx:HasTy TT 25 x):HasTy TT 22 (.sl 7 [x]):=
 .sl _ _ _ _ undExprs (by kernel_rfl) ⟨by simp,λb hb=>by
  have:TT.bytes 25=some 104:=by kernel_rfl
  rw[this] at hb;cases hb;simp⟩ (by simpa using hx)
theorem refSame_ok(pl:Bool)(x y:Dat)(g:Glob)(hx:HasTy TT 44 x)(hy:HasTy TT 44 y)(Qf:OGP)(hQ:Qf (.val (.d (.bool (eqPg pl (absPg x) (absPg y))))) g):EvF TT 23 [x,y,.bool pl] g Qf:=by
 refine w23 hx hy ?_
 obtain⟨d1,k1,s1,r1,n1,a1,b1,p1,rfl,hd1,he1⟩:=prog_ty hx
 obtain⟨d2,k2,s2,r2,n2,a2,b2,p2,rfl,hd2,he2⟩:=prog_ty hy
 simp only[eqPg,absPg] at hQ
 refine declsOk pl d1 d2 g hd1 hd2 _ ⟨_,rfl,Br_iff.2 ⟨λq=>?_,λq=>?_⟩⟩
 ·refine sameExprs_ok pl _ _ _ g (Nat.lt_succ_self _) (one_expr he1) (one_expr he2) _ ⟨_,rfl,?_⟩
  have:eqBy (eqDc pl) ((elsOf (fld (.agg [d1,.int .i64 k1,.str s1,.str r1,.int .i64 n1,a1,b1,.int .i64 p1]) 0)).map absDc) ((elsOf (fld (.agg [d2,.int .i64 k2,.str s2,.str r2,.int .i64 n2,a2,b2,.int .i64 p2]) 0)).map absDc)=true:=q
  rw[this,Bool.true_and] at hQ
  simpa[absExA,absExL,eqExs,sub] using hQ
 ·have:eqBy (eqDc pl) ((elsOf (fld (.agg [d1,.int .i64 k1,.str s1,.str r1,.int .i64 n1,a1,b1,.int .i64 p1]) 0)).map absDc) ((elsOf (fld (.agg [d2,.int .i64 k2,.str s2,.str r2,.int .i64 n2,a2,b2,.int .i64 p2]) 0)).map absDc)=false:=q
  rw[this,Bool.false_and] at hQ
  exact hQ
end Go.Proofs.YtmlghadphdpbjaaGreatDoor.Pa
namespace Go.Proofs.YtmlghadphdpbjaaGreatDoor.Pa
open Go Go.Proofs.YtmlghadphdpbjaaGreatDoor.Am
end Go.Proofs.YtmlghadphdpbjaaGreatDoor.Pa
namespace Go.Proofs.YtmlghadphdpbjaaGreatDoor.Pa
open Go Go.Proofs.YtmlghadphdpbjaaGreatDoor.Am
end Go.Proofs.YtmlghadphdpbjaaGreatDoor.Pa
namespace Go.Proofs.YtmlghadphdpbjaaGreatDoor.Pa
open Go Go.Proofs.YtmlghadphdpbjaaGreatDoor.Am
theorem byStr:TT.bytes 9=some 16:=by kernel_rfl
theorem szStr:TT.size 9=some 1:=by kernel_rfl
end Go.Proofs.YtmlghadphdpbjaaGreatDoor.Pa
namespace Go.Proofs.YtmlghadphdpbjaaGreatDoor.Pa
open Go Go.Proofs.YtmlghadphdpbjaaGreatDoor.Am
mutual
theorem eqTy_refl:∀x:Ty,eqTy x x=true
 |.mk k s n a=>by simp[eqTy,eqTys_refl a]
theorem eqTys_refl:∀x:List Ty,eqTys x x=true
 |[]=>rfl
 |x::xs=>by simp[eqTys,eqTy_refl x,eqTys_refl xs]
end
mutual
theorem eqPt_refl(pl:Bool):∀x:Pt,eqPt pl x x=true
 |.mk k s n a p=>by simp[eqPt,eqPts_refl pl a]
theorem eqPts_refl(pl:Bool):∀x:List Pt,eqPts pl x x=true
 |[]=>rfl
 |x::xs=>by simp[eqPts,eqPt_refl pl x,eqPts_refl pl xs]
end
mutual
theorem eqEx_refl(pl:Bool):∀x:Ex',eqEx pl x x=true
 |.mk k s r n a b p=>by simp[eqEx,eqExs_refl pl a,eqPts_refl pl b]
theorem eqExs_refl(pl:Bool):∀x:List Ex',eqExs pl x x=true
 |[]=>rfl
 |x::xs=>by simp[eqExs,eqEx_refl pl x,eqExs_refl pl xs]
end
theorem eqBy_refl{α:Type}{f:α→α→Bool}(h:∀x,f x x=true):∀xs,eqBy f xs xs=true
 |[]=>rfl
 |x::xs=>by simp[eqBy,h x,eqBy_refl h xs]
theorem eqCn_refl(x:Cn):eqCn x x=true:=by simp[eqCn,eqTys_refl]
theorem eqDc_refl(pl:Bool)(x:Dc):eqDc pl x x=true:=by
 simp[eqDc,eqBy_refl eqCn_refl,eqBy_refl (f:=λa b:Str=>a==b) (by simp)]
theorem eqPg_refl(pl:Bool)(x:Pg):eqPg pl x x=true:=by
 simp[eqPg,eqBy_refl (eqDc_refl pl),eqEx_refl]
end Go.Proofs.YtmlghadphdpbjaaGreatDoor.Pa
