/- What functions of the program do, printed by wip/tools/sx/sx.py. The document's comparisons of trees. What functions of the program do, printed by wip/tools/sx/sx.py. The document's comparison of programs; the program's own. The program's own comparison of programs. What functions of the program do, printed by wip/tools/sx/sx.py. The document's copies; what is too large. Nothing of this layer is asked in this seat. The law ParseSame told: it answers true. -/
import Derived.Test.YtmlghadphdpbjaaGreatDoorRC
set_option linter.all false
set_option autoImplicit false
set_option maxRecDepth 100000
namespace Go.Proofs.YtmlghadphdpbjaaGreatDoor.Pa
open Go Go.Proofs.YtmlghadphdpbjaaGreatDoor.Am
def L39_4(x0:Dat)(x1:Dat)(n5:Int)(g:Glob)(Qf:OGP):Prop:=CutP TT Tryz.f39 [1,1,0,1,0] Qf (mkC TT 39 Tryz.f39 2 [(0,.v 26 (x0)),(1,.v 26 (x1)),(5,.v 3 (.int .i64 n5))] [] g)
def lo39:List CutI:=[⟨4,[(0,.keep),(1,.keep),(5,.keep)],[]⟩]
theorem w39{x0:Dat}{x1:Dat}{g:Glob}{Qf:OGP}(h0:HasTy TT 26 x0)(h1:HasTy TT 26 x1)
 (h:Br ((↑(elsOf x0).length:Int)!=(↑(elsOf x1).length:Int)) (Qf (.val (.d (.bool false))) g) (L39_4 x0 x1 0 g Qf)):
 EvF TT 39 [x0,x1] g Qf:=
 sx_fun (rk:=rk) (fn:=Tryz.f39) (loops:=lo39) (joins:=[]) (n:=100000) (args:=[(26,x0),(26,x1)]) rfl rfl rfl rfl ⟨h0,h1,trivial⟩ (by kernel_rfl) h
theorem w39_4{x0:Dat}{x1:Dat}{n5:Int}{g:Glob}{Qf:OGP}
 (h:Br (decide (n5<(↑(elsOf x0).length:Int))) (InB n5 (elsOf x0).length∧InB n5 (elsOf x1).length∧Br (intOf (fld (getE (elsOf x0) n5) 0)!=intOf (fld (getE (elsOf x1) n5) 0)) (Qf (.val (.d (.bool false))) g) (InB n5 (elsOf x0).length∧InB n5 (elsOf x1).length∧Br (!strOf (fld (getE (elsOf x0) n5) 1)==strOf (fld (getE (elsOf x1) n5) 1)) (Qf (.val (.d (.bool false))) g) (InB n5 (elsOf x0).length∧InB n5 (elsOf x1).length∧Br (intOf (fld (getE (elsOf x0) n5) 2)!=intOf (fld (getE (elsOf x1) n5) 2)) (Qf (.val (.d (.bool false))) g) (InB n5 (elsOf x0).length∧InB n5 (elsOf x1).length∧EvF TT 39 [fld (getE (elsOf x0) n5) 3,fld (getE (elsOf x1) n5) 3] g (KQ Qf λv g'=>∃b,v=.d (.bool b)∧Br (!b) (Qf (.val (.d (.bool false))) g') (L39_4 x0 x1 (IntKind.i64.wrap (n5+1)) g' Qf)))))) (Qf (.val (.d (.bool true))) g)):
 L39_4 x0 x1 n5 g Qf:=sx_cut (rk:=rk) (loops:=lo39) (joins:=[]) (n:=100000) (by kernel_rfl) h
def L85_4(x0:Dat)(x1:Dat)(b2:Bool)(n7:Int)(g:Glob)(Qf:OGP):Prop:=CutP TT Tryz.f85 [1,1,0,1,0] Qf (mkC TT 85 Tryz.f85 3 [(0,.v 23 (x0)),(1,.v 23 (x1)),(2,.v 4 (.bool b2)),(7,.v 3 (.int .i64 n7))] [] g)
def lo85:List CutI:=[⟨4,[(0,.keep),(1,.keep),(2,.keep),(7,.keep)],[]⟩]
theorem w85{x0:Dat}{x1:Dat}{b2:Bool}{g:Glob}{Qf:OGP}(h0:HasTy TT 23 x0)(h1:HasTy TT 23 x1)
 (h:Br ((↑(elsOf x0).length:Int)!=(↑(elsOf x1).length:Int)) (Qf (.val (.d (.bool false))) g) (L85_4 x0 x1 b2 0 g Qf)):
 EvF TT 85 [x0,x1,.bool b2] g Qf:=
 sx_fun (rk:=rk) (fn:=Tryz.f85) (loops:=lo85) (joins:=[]) (n:=100000) (args:=[(23,x0),(23,x1),(4,.bool b2)]) rfl rfl rfl rfl ⟨h0,h1,tyBool rfl,trivial⟩ (by kernel_rfl) h
theorem w85_4{x0:Dat}{x1:Dat}{b2:Bool}{n7:Int}{g:Glob}{Qf:OGP}
 (h:Br (decide (n7<(↑(elsOf x0).length:Int))) (InB n7 (elsOf x0).length∧InB n7 (elsOf x1).length∧Br (intOf (fld (getE (elsOf x0) n7) 0)!=intOf (fld (getE (elsOf x1) n7) 0)) (Qf (.val (.d (.bool false))) g) (Br (!strOf (fld (getE (elsOf x0) n7) 1)==strOf (fld (getE (elsOf x1) n7) 1)) (Qf (.val (.d (.bool false))) g) (Br (intOf (fld (getE (elsOf x0) n7) 2)!=intOf (fld (getE (elsOf x1) n7) 2)) (Qf (.val (.d (.bool false))) g) (Br b2 (Br (intOf (fld (getE (elsOf x0) n7) 4)!=intOf (fld (getE (elsOf x1) n7) 4)) (Qf (.val (.d (.bool false))) g) (EvF TT 85 [fld (getE (elsOf x0) n7) 3,fld (getE (elsOf x1) n7) 3,.bool b2] g (KQ Qf λv g'=>∃b,v=.d (.bool b)∧Br (!b) (Qf (.val (.d (.bool false))) g') (L85_4 x0 x1 b2 (IntKind.i64.wrap (n7+1)) g' Qf)))) (EvF TT 85 [fld (getE (elsOf x0) n7) 3,fld (getE (elsOf x1) n7) 3,.bool b2] g (KQ Qf λv g'=>∃b,v=.d (.bool b)∧Br (!b) (Qf (.val (.d (.bool false))) g') (L85_4 x0 x1 b2 (IntKind.i64.wrap (n7+1)) g' Qf))))))) (Qf (.val (.d (.bool true))) g)):
 L85_4 x0 x1 b2 n7 g Qf:=sx_cut (rk:=rk) (loops:=lo85) (joins:=[]) (n:=100000) (by kernel_rfl) h
def L46_4(x0:Dat)(x1:Dat)(b2:Bool)(n7:Int)(g:Glob)(Qf:OGP):Prop:=CutP TT Tryz.f46 [1,1,0,1,0] Qf (mkC TT 46 Tryz.f46 3 [(0,.v 22 (x0)),(1,.v 22 (x1)),(2,.v 4 (.bool b2)),(7,.v 3 (.int .i64 n7))] [] g)
def lo46:List CutI:=[⟨4,[(0,.keep),(1,.keep),(2,.keep),(7,.keep)],[]⟩]
theorem w46{x0:Dat}{x1:Dat}{b2:Bool}{g:Glob}{Qf:OGP}(h0:HasTy TT 22 x0)(h1:HasTy TT 22 x1)
 (h:Br ((↑(elsOf x0).length:Int)!=(↑(elsOf x1).length:Int)) (Qf (.val (.d (.bool false))) g) (L46_4 x0 x1 b2 0 g Qf)):
 EvF TT 46 [x0,x1,.bool b2] g Qf:=
 sx_fun (rk:=rk) (fn:=Tryz.f46) (loops:=lo46) (joins:=[]) (n:=100000) (args:=[(22,x0),(22,x1),(4,.bool b2)]) rfl rfl rfl rfl ⟨h0,h1,tyBool rfl,trivial⟩ (by kernel_rfl) h
theorem w46_4{x0:Dat}{x1:Dat}{b2:Bool}{n7:Int}{g:Glob}{Qf:OGP}
 (h:Br (decide (n7<(↑(elsOf x0).length:Int))) (InB n7 (elsOf x0).length∧InB n7 (elsOf x1).length∧Br (intOf (fld (getE (elsOf x0) n7) 0)!=intOf (fld (getE (elsOf x1) n7) 0)) (Qf (.val (.d (.bool false))) g) (Br (!strOf (fld (getE (elsOf x0) n7) 1)==strOf (fld (getE (elsOf x1) n7) 1)) (Qf (.val (.d (.bool false))) g) (Br (!strOf (fld (getE (elsOf x0) n7) 2)==strOf (fld (getE (elsOf x1) n7) 2)) (Qf (.val (.d (.bool false))) g) (Br (intOf (fld (getE (elsOf x0) n7) 3)!=intOf (fld (getE (elsOf x1) n7) 3)) (Qf (.val (.d (.bool false))) g) (Br b2 (Br (intOf (fld (getE (elsOf x0) n7) 6)!=intOf (fld (getE (elsOf x1) n7) 6)) (Qf (.val (.d (.bool false))) g) (EvF TT 85 [fld (getE (elsOf x0) n7) 5,fld (getE (elsOf x1) n7) 5,.bool b2] g (KQ Qf λv g'=>∃b,v=.d (.bool b)∧Br (!b) (Qf (.val (.d (.bool false))) g') (EvF TT 46 [fld (getE (elsOf x0) n7) 4,fld (getE (elsOf x1) n7) 4,.bool b2] g' (KQ Qf λv g'=>∃b,v=.d (.bool b)∧Br (!b) (Qf (.val (.d (.bool false))) g') (L46_4 x0 x1 b2 (IntKind.i64.wrap (n7+1)) g' Qf)))))) (EvF TT 85 [fld (getE (elsOf x0) n7) 5,fld (getE (elsOf x1) n7) 5,.bool b2] g (KQ Qf λv g'=>∃b,v=.d (.bool b)∧Br (!b) (Qf (.val (.d (.bool false))) g') (EvF TT 46 [fld (getE (elsOf x0) n7) 4,fld (getE (elsOf x1) n7) 4,.bool b2] g' (KQ Qf λv g'=>∃b,v=.d (.bool b)∧Br (!b) (Qf (.val (.d (.bool false))) g') (L46_4 x0 x1 b2 (IntKind.i64.wrap (n7+1)) g' Qf)))))))))) (Qf (.val (.d (.bool true))) g)):
 L46_4 x0 x1 b2 n7 g Qf:=sx_cut (rk:=rk) (loops:=lo46) (joins:=[]) (n:=100000) (by kernel_rfl) h
def L45_4(x0:Dat)(x1:Dat)(b2:Bool)(n7:Int)(g:Glob)(Qf:OGP):Prop:=CutP TT Tryz.f45 [1,1,0,1,0] Qf (mkC TT 45 Tryz.f45 3 [(0,.v 42 (x0)),(1,.v 42 (x1)),(2,.v 4 (.bool b2)),(7,.v 3 (.int .i64 n7))] [] g)
def L45_10(x0:Dat)(x1:Dat)(b2:Bool)(n7:Int)(n10:Int)(y9:Dat)(y8:Dat)(g:Glob)(Qf:OGP):Prop:=CutP TT Tryz.f45 [1,1,0,1,0,0,1,0,0,1,1,0,1,0] Qf (mkC TT 45 Tryz.f45 3 [(0,.v 42 (x0)),(1,.v 42 (x1)),(2,.v 4 (.bool b2)),(7,.v 3 (.int .i64 n7)),(8,.loc 8 0 0),(9,.loc 9 0 0),(10,.v 3 (.int .i64 n10))] [(9,.whole 50 y9),(8,.whole 50 y8)] g)
def L45_15(x0:Dat)(x1:Dat)(b2:Bool)(n7:Int)(n11:Int)(y9:Dat)(y8:Dat)(g:Glob)(Qf:OGP):Prop:=CutP TT Tryz.f45 [1,1,0,1,0,0,1,0,0,1,1,1,1,0] Qf (mkC TT 45 Tryz.f45 3 [(0,.v 42 (x0)),(1,.v 42 (x1)),(2,.v 4 (.bool b2)),(7,.v 3 (.int .i64 n7)),(8,.loc 8 0 0),(9,.loc 9 0 0),(11,.v 3 (.int .i64 n11))] [(9,.whole 50 y9),(8,.whole 50 y8)] g)
def lo45:List CutI:=[⟨4,[(0,.keep),(1,.keep),(2,.keep),(7,.keep)],[]⟩,⟨10,[(0,.keep),(1,.keep),(2,.keep),(7,.keep),(8,.keep),(9,.keep),(10,.keep)],[(9,.whole 50),(8,.whole 50)]⟩,⟨15,[(0,.keep),(1,.keep),(2,.keep),(7,.keep),(8,.keep),(9,.keep),(11,.keep)],[(9,.whole 50),(8,.whole 50)]⟩]
theorem w45{x0:Dat}{x1:Dat}{b2:Bool}{g:Glob}{Qf:OGP}(h0:HasTy TT 42 x0)(h1:HasTy TT 42 x1)
 (h:Br ((↑(elsOf x0).length:Int)!=(↑(elsOf x1).length:Int)) (Qf (.val (.d (.bool false))) g) (L45_4 x0 x1 b2 0 g Qf)):
 EvF TT 45 [x0,x1,.bool b2] g Qf:=
 sx_fun (rk:=rk) (fn:=Tryz.f45) (loops:=lo45) (joins:=[]) (n:=100000) (args:=[(42,x0),(42,x1),(4,.bool b2)]) rfl rfl rfl rfl ⟨h0,h1,tyBool rfl,trivial⟩ (by kernel_rfl) h
theorem w45_4{x0:Dat}{x1:Dat}{b2:Bool}{n7:Int}{g:Glob}{Qf:OGP}
 (h:Br (decide (n7<(↑(elsOf x0).length:Int))) (InB n7 (elsOf x0).length∧InB n7 (elsOf x1).length∧Br (!strOf (fld (getE (elsOf x0) n7) 0)==strOf (fld (getE (elsOf x1) n7) 0)) (Qf (.val (.d (.bool false))) g) (Br b2 (Br (intOf (fld (getE (elsOf x0) n7) 3)!=intOf (fld (getE (elsOf x1) n7) 3)) (Qf (.val (.d (.bool false))) g) (Br ((↑(elsOf (fld (getE (elsOf x0) n7) 1)).length:Int)!=(↑(elsOf (fld (getE (elsOf x1) n7) 1)).length:Int)) (Qf (.val (.d (.bool false))) g) (Br ((↑(elsOf (fld (getE (elsOf x0) n7) 2)).length:Int)!=(↑(elsOf (fld (getE (elsOf x1) n7) 2)).length:Int)) (Qf (.val (.d (.bool false))) g) (L45_10 x0 x1 b2 n7 0 (getE (elsOf x1) n7) (getE (elsOf x0) n7) g Qf)))) (Br ((↑(elsOf (fld (getE (elsOf x0) n7) 1)).length:Int)!=(↑(elsOf (fld (getE (elsOf x1) n7) 1)).length:Int)) (Qf (.val (.d (.bool false))) g) (Br ((↑(elsOf (fld (getE (elsOf x0) n7) 2)).length:Int)!=(↑(elsOf (fld (getE (elsOf x1) n7) 2)).length:Int)) (Qf (.val (.d (.bool false))) g) (L45_10 x0 x1 b2 n7 0 (getE (elsOf x1) n7) (getE (elsOf x0) n7) g Qf))))) (Qf (.val (.d (.bool true))) g)):
 L45_4 x0 x1 b2 n7 g Qf:=sx_cut (rk:=rk) (loops:=lo45) (joins:=[]) (n:=100000) (by kernel_rfl) h
theorem w45_10{x0:Dat}{x1:Dat}{b2:Bool}{n7:Int}{n10:Int}{y9:Dat}{y8:Dat}{g:Glob}{Qf:OGP}
 (h:Br (decide (n10<(↑(elsOf (fld y8 1)).length:Int))) (InB n10 (elsOf (fld y8 1)).length∧InB n10 (elsOf (fld y9 1)).length∧Br (!strOf (fld (getE (elsOf (fld y8 1)) n10) 0)==strOf (fld (getE (elsOf (fld y9 1)) n10) 0)) (Qf (.val (.d (.bool false))) g) (L45_10 x0 x1 b2 n7 (IntKind.i64.wrap (n10+1)) y9 y8 g Qf)) (L45_15 x0 x1 b2 n7 0 y9 y8 g Qf)):
 L45_10 x0 x1 b2 n7 n10 y9 y8 g Qf:=sx_cut (rk:=rk) (loops:=lo45) (joins:=[]) (n:=100000) (by kernel_rfl) h
theorem w45_15{x0:Dat}{x1:Dat}{b2:Bool}{n7:Int}{n11:Int}{y9:Dat}{y8:Dat}{g:Glob}{Qf:OGP}
 (h:Br (decide (n11<(↑(elsOf (fld y8 2)).length:Int))) (InB n11 (elsOf (fld y8 2)).length∧InB n11 (elsOf (fld y9 2)).length∧Br (!strOf (fld (getE (elsOf (fld y8 2)) n11) 0)==strOf (fld (getE (elsOf (fld y9 2)) n11) 0)) (Qf (.val (.d (.bool false))) g) (InB n11 (elsOf (fld y8 2)).length∧InB n11 (elsOf (fld y9 2)).length∧EvF TT 39 [fld (getE (elsOf (fld y8 2)) n11) 1,fld (getE (elsOf (fld y9 2)) n11) 1] g (KQ Qf λv g'=>∃b,v=.d (.bool b)∧Br (!b) (Qf (.val (.d (.bool false))) g') (L45_15 x0 x1 b2 n7 (IntKind.i64.wrap (n11+1)) y9 y8 g' Qf)))) (L45_4 x0 x1 b2 (IntKind.i64.wrap (n7+1)) g Qf)):
 L45_15 x0 x1 b2 n7 n11 y9 y8 g Qf:=sx_cut (rk:=rk) (loops:=lo45) (joins:=[]) (n:=100000) (by kernel_rfl) h
def lo23:List CutI:=[]
theorem w23{x0:Dat}{x1:Dat}{b2:Bool}{g:Glob}{Qf:OGP}(h0:HasTy TT 44 x0)(h1:HasTy TT 44 x1)
 (h:EvF TT 45 [fld x0 0,fld x1 0,.bool b2] g (KQ Qf λv g'=>∃b,v=.d (.bool b)∧Br b (EvF TT 46 [.sl 7 [sub x0 1 7],.sl 7 [sub x1 1 7],.bool b2] g' (KQ Qf λv g'=>∃b,v=.d (.bool b)∧Qf (.val (.d (.bool b))) g')) (Qf (.val (.d (.bool false))) g'))):
 EvF TT 23 [x0,x1,.bool b2] g Qf:=
 sx_fun (rk:=rk) (fn:=Tryz.f23) (loops:=lo23) (joins:=[]) (n:=100000) (args:=[(44,x0),(44,x1),(4,.bool b2)]) rfl rfl rfl rfl ⟨h0,h1,tyBool rfl,trivial⟩ (by kernel_rfl) h
end Go.Proofs.YtmlghadphdpbjaaGreatDoor.Pa
namespace Go.Proofs.YtmlghadphdpbjaaGreatDoor.Pa
open Go Go.Proofs.YtmlghadphdpbjaaGreatDoor.Am
theorem ne_false{n m:Nat}(h:n=m):((n:Int)!=(m:Int))=false:=by simp[h]
theorem ne_true{n m:Nat}(h:n≠m):((n:Int)!=(m:Int))=true:=by simp;omega
theorem sameTypes_ok:∀(k:Nat) (x y:Dat) (g:Glob),SizeOf.sizeOf x<k→HasTy TT 26 x→HasTy TT 26 y→∀(Qf:OGP),Qf (.val (.d (.bool (eqTys (absTyA x) (absTyA y))))) g→EvF TT 39 [x,y] g Qf
 |0,x,y,g,hk,_,_=>by omega
 |k+1,x,y,g,hk,hx,hy=>by
  have ex:=hx.els undTypes
  have exl:=ex.1.1
  have ey:=hy.els undTypes
  rw[eqTys_by,absTyA_map,absTyA_map,eqBy_map]
  intro Qf hQ
  refine w39 hx hy ?_
  by_cases hl:(elsOf x).length=(elsOf y).length
  ·rw[ne_false hl,Br_false]
   generalize hR:eqBy (λa b=>eqTy (absTy a) (absTy b)) (elsOf x) (elsOf y)=R at hQ
   refine loopUp (len:=(elsOf x).length) (λi=>eqBy (λa b=>eqTy (absTy a) (absTy b)) ((elsOf x).drop i) ((elsOf y).drop i)=R→L39_4 x y (i:Int) g Qf) ?_ ?_ 0 (Nat.zero_le _) hR
   ·intro h
    rw[List.drop_length,hl,List.drop_length] at h
    refine w39_4 ?_
    rw[Br_ge]
    subst h
    exact hQ
   ·intro i hi ih h
    have hj:i<(elsOf y).length:=by omega
    refine w39_4 ?_
    rw[Br_lt hi,getE_nat hi,getE_nat hj]
    rw[eqBy_drop hi hj] at h
    have hsz:=sizeOf_el hi
    obtain⟨k1,s1,n1,a1,e1,_,t1⟩:=type_ty (ex.2 _ (List.getElem_mem hi))
    obtain⟨k2,s2,n2,a2,e2,_,t2⟩:=type_ty (ey.2 _ (List.getElem_mem hj))
    rw[e1] at hsz h⊢
    rw[e2] at h⊢
    have hc:SizeOf.sizeOf a1<k:=by have:=sizeOf_cell (cs:=[.int .i64 k1,.str s1,.int .i64 n1,a1]) (c:=a1) (by simp);omega
    simp only[absTy,eqTy] at h
    refine⟨inB hi,inB hj,Br_iff.2 ⟨λq=>?_,λq=>⟨inB hi,inB hj,Br_iff.2 ⟨λq'=>?_,λq'=>⟨inB hi,inB hj,Br_iff.2 ⟨λq''=>?_,λq''=>⟨inB hi,inB hj,?_⟩⟩⟩⟩⟩⟩⟩
    all_goals simp[fld,nth,intOf,strOf] at q
    ·exact(by rw[←h];simp[q]:R=false)▸hQ
    all_goals simp[fld,nth,intOf,strOf] at q'
    ·exact(by rw[←h];simp[q']:R=false)▸hQ
    all_goals simp[fld,nth,intOf,strOf] at q''
    ·exact(by rw[←h];simp[q'']:R=false)▸hQ
    subst q q' q''
    simp only[beq_self_eq_true,Bool.true_and] at h
    refine sameTypes_ok k a1 a2 g hc t1 t2 _ ⟨_,rfl,Br_iff.2 ⟨λq=>?_,λq=>?_⟩⟩
    ·exact(by rw[←h];simp at q;simp[q]:R=false)▸hQ
    ·rw[wrap_nat (by omega)]
     refine ih ?_
     rw[←h]
     simp at q
     simp[q]
  ·rw[ne_true hl,Br_true]
   rw[eqBy_len hl] at hQ
   exact hQ
theorem samePats_ok(pl:Bool):∀(k:Nat) (x y:Dat) (g:Glob),SizeOf.sizeOf x<k→HasTy TT 23 x→HasTy TT 23 y→∀(Qf:OGP),Qf (.val (.d (.bool (eqPts pl (absPtA x) (absPtA y))))) g→EvF TT 85 [x,y,.bool pl] g Qf
 |0,x,y,g,hk,_,_=>by omega
 |k+1,x,y,g,hk,hx,hy=>by
  have ex:=hx.els undPats
  have exl:=ex.1.1
  have ey:=hy.els undPats
  rw[eqPts_by,absPtA_map,absPtA_map,eqBy_map]
  intro Qf hQ
  refine w85 hx hy ?_
  by_cases hl:(elsOf x).length=(elsOf y).length
  ·rw[ne_false hl,Br_false]
   generalize hR:eqBy (λa b=>eqPt pl (absPt a) (absPt b)) (elsOf x) (elsOf y)=R at hQ
   refine loopUp (len:=(elsOf x).length) (λi=>eqBy (λa b=>eqPt pl (absPt a) (absPt b)) ((elsOf x).drop i) ((elsOf y).drop i)=R→L85_4 x y pl (i:Int) g Qf) ?_ ?_ 0 (Nat.zero_le _) hR
   ·intro h
    rw[List.drop_length,hl,List.drop_length] at h
    refine w85_4 ?_
    rw[Br_ge]
    subst h
    exact hQ
   ·intro i hi ih h
    have hj:i<(elsOf y).length:=by omega
    refine w85_4 ?_
    rw[Br_lt hi,getE_nat hi,getE_nat hj]
    rw[eqBy_drop hi hj] at h
    have hsz:=sizeOf_el hi
    obtain⟨k1,s1,n1,a1,p1,e1,_,t1⟩:=pat_ty (ex.2 _ (List.getElem_mem hi))
    obtain⟨k2,s2,n2,a2,p2,e2,_,t2⟩:=pat_ty (ey.2 _ (List.getElem_mem hj))
    rw[e1] at hsz h⊢
    rw[e2] at h⊢
    have hc:SizeOf.sizeOf a1<k:=by have:=sizeOf_cell (cs:=[.int .i64 k1,.str s1,.int .i64 n1,a1,.int .i64 p1]) (c:=a1) (by simp);omega
    simp only[absPt,eqPt] at h
    refine⟨inB hi,inB hj,Br_iff.2 ⟨λq=>?_,λq=>Br_iff.2 ⟨λq'=>?_,λq'=>Br_iff.2 ⟨λq''=>?_,λq''=>?_⟩⟩⟩⟩
    all_goals simp[fld,nth,intOf,strOf] at q
    ·exact(by rw[←h];simp[q]:R=false)▸hQ
    all_goals simp[fld,nth,intOf,strOf] at q'
    ·exact(by rw[←h];simp[q']:R=false)▸hQ
    all_goals simp[fld,nth,intOf,strOf] at q''
    ·exact(by rw[←h];simp[q'']:R=false)▸hQ
    subst q q' q''
    simp only[beq_self_eq_true,Bool.true_and] at h
    have fin:(!pl||p1==p2)=true→EvF TT 85 [a1,a2,Dat.bool pl] g (KQ Qf λv g'=>∃b,v=Val.d (Dat.bool b)∧Br (!b) (Qf (Out.val (Val.d (Dat.bool false))) g') (L85_4 x y pl (IntKind.i64.wrap ((i:Int)+1)) g' Qf)):=by
     intro hp
     simp only[hp,Bool.true_and] at h
     refine samePats_ok pl k a1 a2 g hc t1 t2 _ ⟨_,rfl,Br_iff.2 ⟨λq=>?_,λq=>?_⟩⟩
     ·exact(by rw[←h];simp at q;simp[q]:R=false)▸hQ
     ·rw[wrap_nat (by omega)]
      refine ih ?_
      rw[←h]
      simp at q
      simp[q]
    refine Br_iff.2 ⟨λhp=>Br_iff.2 ⟨λq=>?_,λq=>fin ?_⟩,λhp=>fin (by simp[hp])⟩
    ·simp[fld,nth,intOf] at q
     exact(by rw[←h];simp[hp,q]:R=false)▸hQ
    ·simp[fld,nth,intOf] at q
     simp[q]
  ·rw[ne_true hl,Br_true]
   rw[eqBy_len hl] at hQ
   exact hQ
theorem sameExprs_ok(pl:Bool):∀(k:Nat) (x y:Dat) (g:Glob),SizeOf.sizeOf x<k→HasTy TT 22 x→HasTy TT 22 y→∀(Qf:OGP),Qf (.val (.d (.bool (eqExs pl (absExA x) (absExA y))))) g→EvF TT 46 [x,y,.bool pl] g Qf
 |0,x,y,g,hk,_,_=>by omega
 |k+1,x,y,g,hk,hx,hy=>by
  have ex:=hx.els undExprs
  have exl:=ex.1.1
  have ey:=hy.els undExprs
  rw[eqExs_by,absExA_map,absExA_map,eqBy_map]
  intro Qf hQ
  refine w46 hx hy ?_
  by_cases hl:(elsOf x).length=(elsOf y).length
  ·rw[ne_false hl,Br_false]
   generalize hR:eqBy (λa b=>eqEx pl (absEx a) (absEx b)) (elsOf x) (elsOf y)=R at hQ
   refine loopUp (len:=(elsOf x).length) (λi=>eqBy (λa b=>eqEx pl (absEx a) (absEx b)) ((elsOf x).drop i) ((elsOf y).drop i)=R→L46_4 x y pl (i:Int) g Qf) ?_ ?_ 0 (Nat.zero_le _) hR
   ·intro h
    rw[List.drop_length,hl,List.drop_length] at h
    refine w46_4 ?_
    rw[Br_ge]
    subst h
    exact hQ
   ·intro i hi ih h
    have hj:i<(elsOf y).length:=by omega
    refine w46_4 ?_
    rw[Br_lt hi,getE_nat hi,getE_nat hj]
    rw[eqBy_drop hi hj] at h
    have hsz:=sizeOf_el hi
    obtain⟨k1,s1,r1,n1,a1,b1,p1,e1,_,_,t1,u1⟩:=expr_ty (ex.2 _ (List.getElem_mem hi))
    obtain⟨k2,s2,r2,n2,a2,b2,p2,e2,_,_,t2,u2⟩:=expr_ty (ey.2 _ (List.getElem_mem hj))
    rw[e1] at hsz h⊢
    rw[e2] at h⊢
    have hc:SizeOf.sizeOf a1<k:=by have:=sizeOf_cell (cs:=[.int .i64 k1,.str s1,.str r1,.int .i64 n1,a1,b1,.int .i64 p1]) (c:=a1) (by simp);omega
    simp only[absEx,eqEx] at h
    refine⟨inB hi,inB hj,Br_iff.2 ⟨λq=>?_,λq=>Br_iff.2 ⟨λq'=>?_,λq'=>Br_iff.2 ⟨λq''=>?_,λq''=>Br_iff.2 ⟨λq3=>?_,λq3=>?_⟩⟩⟩⟩⟩
    all_goals simp[fld,nth,intOf,strOf] at q
    ·exact(by rw[←h];simp[q]:R=false)▸hQ
    all_goals simp[fld,nth,intOf,strOf] at q'
    ·exact(by rw[←h];simp[q']:R=false)▸hQ
    all_goals simp[fld,nth,intOf,strOf] at q''
    ·exact(by rw[←h];simp[q'']:R=false)▸hQ
    all_goals simp[fld,nth,intOf,strOf] at q3
    ·exact(by rw[←h];simp[q3]:R=false)▸hQ
    subst q q' q'' q3
    simp only[beq_self_eq_true,Bool.true_and] at h
    have fin:(!pl||p1==p2)=true→EvF TT 85 [b1,b2,Dat.bool pl] g (KQ Qf λv g'=>∃b,v=Val.d (Dat.bool b)∧Br (!b) (Qf (Out.val (Val.d (Dat.bool false))) g') (EvF TT 46 [a1,a2,Dat.bool pl] g' (KQ Qf λv g'=>∃b,v=Val.d (Dat.bool b)∧Br (!b) (Qf (Out.val (Val.d (Dat.bool false))) g') (L46_4 x y pl (IntKind.i64.wrap ((i:Int)+1)) g' Qf)))):=by
     intro hp
     simp only[hp,Bool.true_and] at h
     refine samePats_ok pl _ b1 b2 g (Nat.lt_succ_self _) u1 u2 _ ⟨_,rfl,Br_iff.2 ⟨λq=>?_,λq=>?_⟩⟩
     ·exact(by rw[←h];simp at q;simp[q]:R=false)▸hQ
     ·refine sameExprs_ok pl k a1 a2 g hc t1 t2 _ ⟨_,rfl,Br_iff.2 ⟨λq'=>?_,λq'=>?_⟩⟩
      ·exact(by rw[←h];simp at q';simp[q']:R=false)▸hQ
      ·rw[wrap_nat (by omega)]
       refine ih ?_
       rw[←h]
       simp at q q'
       simp[q,q']
    refine Br_iff.2 ⟨λhp=>Br_iff.2 ⟨λq=>?_,λq=>fin ?_⟩,λhp=>fin (by simp[hp])⟩
    ·simp[fld,nth,intOf] at q
     exact(by rw[←h];simp[hp,q]:R=false)▸hQ
    ·simp[fld,nth,intOf] at q
     simp[q]
  ·rw[ne_true hl,Br_true]
   rw[eqBy_len hl] at hQ
   exact hQ
end Go.Proofs.YtmlghadphdpbjaaGreatDoor.Pa
namespace Go.Proofs.YtmlghadphdpbjaaGreatDoor.Pa
open Go Go.Proofs.YtmlghadphdpbjaaGreatDoor.Am
end Go.Proofs.YtmlghadphdpbjaaGreatDoor.Pa
namespace Go.Proofs.YtmlghadphdpbjaaGreatDoor.Pa
open Go Go.Proofs.YtmlghadphdpbjaaGreatDoor.Am
def eqCn(c d:Cn):Bool:=c.s==d.s&&eqTys c.fs d.fs
def eqDc(pl:Bool)(c d:Dc):Bool:=c.s==d.s&&((!pl||c.p==d.p)&&(eqBy (λa b=>a==b) c.ps d.ps&&eqBy eqCn c.cs d.cs))
def eqPg(pl:Bool)(p q:Pg):Bool:=eqBy (eqDc pl) p.ds q.ds&&eqEx pl p.e q.e
theorem absDc_agg(s:Str)(a b:Dat)(k:IntKind)(p:Int):absDc (.agg [.str s,a,b,.int k p])=⟨s,(elsOf a).map strOf,(elsOf b).map absCn,p⟩:=rfl
theorem absCn_agg(s:Str)(a:Dat):absCn (.agg [.str s,a])=⟨s,absTyA a⟩:=rfl
theorem eqDc_mk(pl:Bool)(s s':Str)(a a':List Str)(b b':List Cn)(p p':Int):eqDc pl ⟨s,a,b,p⟩ ⟨s',a',b',p'⟩=(s==s'&&((!pl||p==p')&&(eqBy (λa b=>a==b) a a'&&eqBy eqCn b b'))):=rfl
theorem eqCn_mk(s s':Str)(a a':List Ty):eqCn ⟨s,a⟩ ⟨s',a'⟩=(s==s'&&eqTys a a'):=rfl
theorem len_le{x:Dat}{t u:TypeId}(hu:TT.und t=some (.slice u))(hx:HasTy TT t x):(elsOf x).length≤2^40:=(hx.els hu).1.1
theorem declsOk(pl:Bool)(x y:Dat)(g:Glob)(hx:HasTy TT 42 x)(hy:HasTy TT 42 y)(Qf:OGP)(hQ:Qf (.val (.d (.bool (eqBy (eqDc pl) ((elsOf x).map absDc) ((elsOf y).map absDc))))) g):EvF TT 45 [x,y,.bool pl] g Qf:=by
 have ex:=hx.els undDecls
 have ey:=hy.els undDecls
 have exl:=ex.1.1
 rw[eqBy_map] at hQ
 refine w45 hx hy ?_
 by_cases hl:(elsOf x).length=(elsOf y).length
 ·rw[ne_false hl,Br_false]
  generalize hR:eqBy (λa b=>eqDc pl (absDc a) (absDc b)) (elsOf x) (elsOf y)=R at hQ
  refine loopUp (len:=(elsOf x).length) (λi=>eqBy (λa b=>eqDc pl (absDc a) (absDc b)) ((elsOf x).drop i) ((elsOf y).drop i)=R→L45_4 x y pl (i:Int) g Qf) ?_ ?_ 0 (Nat.zero_le _) hR
  ·intro h
   rw[List.drop_length,hl,List.drop_length] at h
   refine w45_4 ?_
   rw[Br_ge]
   subst h
   exact hQ
  ·intro i hi ih h
   have hj:i<(elsOf y).length:=by omega
   refine w45_4 ?_
   rw[Br_lt hi,getE_nat hi,getE_nat hj]
   rw[eqBy_drop hi hj] at h
   obtain⟨s1,a1,b1,p1,e1,_,ta1,tb1⟩:=decl_ty (ex.2 _ (List.getElem_mem hi))
   obtain⟨s2,a2,b2,p2,e2,_,ta2,tb2⟩:=decl_ty (ey.2 _ (List.getElem_mem hj))
   rw[e1] at h⊢
   rw[e2] at h⊢
   have ea1:=ta1.els undStrs
   have ea2:=ta2.els undStrs
   have eb1:=tb1.els undCons
   have eb2:=tb2.els undCons
   have la1:=ea1.1.1
   have lb1:=eb1.1.1
   simp only[absDc_agg,eqDc_mk] at h
   refine⟨inB hi,inB hj,Br_iff.2 ⟨λq=>?_,λq=>?_⟩⟩
   all_goals simp[fld,nth,strOf] at q
   ·exact(by rw[←h];simp[q]:R=false)▸hQ
   subst q
   simp only[beq_self_eq_true,Bool.true_and] at h
   -- what follows,when the places are alike
   have cons:(!pl||p1==p2)=true→(elsOf b1).length=(elsOf b2).length→eqBy (λa b=>a==b) ((elsOf a1).map strOf) ((elsOf a2).map strOf)=true→
    L45_15 x y pl (i:Int) 0 (.agg [.str s1,a2,b2,.int .i64 p2]) (.agg [.str s1,a1,b1,.int .i64 p1]) g Qf:=by
    intro hp hlb ha
    rw[hp,ha] at h
    simp only[Bool.true_and] at h
    rw[eqBy_map] at h
    generalize hR2:eqBy (λa b=>eqCn (absCn a) (absCn b)) (elsOf b1) (elsOf b2)=R2 at h
    refine loopUp (len:=(elsOf b1).length) (λj=>eqBy (λa b=>eqCn (absCn a) (absCn b)) ((elsOf b1).drop j) ((elsOf b2).drop j)=R2→L45_15 x y pl (i:Int) (j:Int) (.agg [.str s1,a2,b2,.int .i64 p2]) (.agg [.str s1,a1,b1,.int .i64 p1]) g Qf) ?_ ?_ 0 (Nat.zero_le _) hR2
    ·intro h2
     rw[List.drop_length,hlb,List.drop_length] at h2
     refine w45_15 ?_
     rw[show(fld (Dat.agg [.str s1,a1,b1,.int .i64 p1]) 2)=b1 from rfl,Br_ge]
     rw[wrap_nat (by omega)]
     refine ih ?_
     rw[←h,←h2]
     rfl
    ·intro j hj1 ih2 h2
     have hj2:j<(elsOf b2).length:=by omega
     refine w45_15 ?_
     rw[show(fld (Dat.agg [.str s1,a1,b1,.int .i64 p1]) 2)=b1 from rfl,show(fld (Dat.agg [.str s1,a2,b2,.int .i64 p2]) 2)=b2 from rfl,Br_lt hj1,getE_nat hj1,getE_nat hj2]
     rw[eqBy_drop hj1 hj2] at h2
     obtain⟨t1,f1,d1,_,tf1⟩:=con_ty (eb1.2 _ (List.getElem_mem hj1))
     obtain⟨t2,f2,d2,_,tf2⟩:=con_ty (eb2.2 _ (List.getElem_mem hj2))
     rw[d1] at h2⊢
     rw[d2] at h2⊢
     simp only[absCn_agg,eqCn_mk] at h2
     refine⟨inB hj1,inB hj2,Br_iff.2 ⟨λq=>?_,λq=>⟨inB hj1,inB hj2,?_⟩⟩⟩
     all_goals simp[fld,nth,strOf] at q
     ·exact(by rw[←h,←h2];simp[q]:R=false)▸hQ
     subst q
     simp only[beq_self_eq_true,Bool.true_and] at h2
     refine sameTypes_ok _ f1 f2 g (Nat.lt_succ_self _) tf1 tf2 _ ⟨_,rfl,Br_iff.2 ⟨λq=>?_,λq=>?_⟩⟩
     ·exact(by rw[←h,←h2];simp at q;simp[q]:R=false)▸hQ
     ·rw[wrap_nat (by omega)]
      refine ih2 ?_
      rw[←h2]
      simp at q
      simp[q]
   have pars:(!pl||p1==p2)=true→(elsOf a1).length=(elsOf a2).length→(elsOf b1).length=(elsOf b2).length→
     L45_10 x y pl (i:Int) 0 (.agg [.str s1,a2,b2,.int .i64 p2]) (.agg [.str s1,a1,b1,.int .i64 p1]) g Qf:=by
    intro hp hla hlb
    generalize hR2:eqBy (λa b=>a==b) ((elsOf a1).map strOf) ((elsOf a2).map strOf)=R2 at h cons
    rw[eqBy_map] at hR2
    refine loopUp (len:=(elsOf a1).length) (λj=>eqBy (λa b=>strOf a==strOf b) ((elsOf a1).drop j) ((elsOf a2).drop j)=R2→L45_10 x y pl (i:Int) (j:Int) (.agg [.str s1,a2,b2,.int .i64 p2]) (.agg [.str s1,a1,b1,.int .i64 p1]) g Qf) ?_ ?_ 0 (Nat.zero_le _) hR2
    ·intro h2
     rw[List.drop_length,hla,List.drop_length] at h2
     refine w45_10 ?_
     rw[show(fld (Dat.agg [.str s1,a1,b1,.int .i64 p1]) 1)=a1 from rfl,Br_ge]
     exact cons hp hlb (by rw[←h2];rfl)
    ·intro j hj1 ih2 h2
     have hj2:j<(elsOf a2).length:=by omega
     refine w45_10 ?_
     rw[show(fld (Dat.agg [.str s1,a1,b1,.int .i64 p1]) 1)=a1 from rfl,show(fld (Dat.agg [.str s1,a2,b2,.int .i64 p2]) 1)=a2 from rfl,Br_lt hj1,getE_nat hj1,getE_nat hj2]
     rw[eqBy_drop hj1 hj2] at h2
     obtain⟨t1,d1,_⟩:=str_ty (ea1.2 _ (List.getElem_mem hj1))
     obtain⟨t2,d2,_⟩:=str_ty (ea2.2 _ (List.getElem_mem hj2))
     rw[d1] at h2⊢
     rw[d2] at h2⊢
     simp only[strOf] at h2
     refine⟨inB hj1,inB hj2,Br_iff.2 ⟨λq=>?_,λq=>?_⟩⟩
     all_goals simp[fld,strOf] at q
     ·exact(by rw[←h,←h2];simp[q]:R=false)▸hQ
     subst q
     simp only[beq_self_eq_true,Bool.true_and] at h2
     rw[wrap_nat (by omega)]
     exact ih2 h2
   have lens:(!pl||p1==p2)=true→Br ((↑(elsOf a1).length:Int)!=(↑(elsOf a2).length:Int)) (Qf (Out.val (Val.d (Dat.bool false))) g) (Br ((↑(elsOf b1).length:Int)!=(↑(elsOf b2).length:Int)) (Qf (Out.val (Val.d (Dat.bool false))) g) (L45_10 x y pl (i:Int) 0 (.agg [.str s1,a2,b2,.int .i64 p2]) (.agg [.str s1,a1,b1,.int .i64 p1]) g Qf)):=by
    intro hp
    by_cases h1:(elsOf a1).length=(elsOf a2).length
    ·rw[ne_false h1,Br_false]
     by_cases h2:(elsOf b1).length=(elsOf b2).length
     ·rw[ne_false h2,Br_false]
      exact pars hp h1 h2
     ·rw[ne_true h2,Br_true]
      exact(by rw[←h,eqBy_len (f:=eqCn) (by simpa using h2)];simp:R=false)▸hQ
    ·rw[ne_true h1,Br_true]
     exact(by rw[←h,eqBy_len (f:=λa b=>a==b) (by simpa using h1)];simp:R=false)▸hQ
   refine Br_iff.2 ⟨λhp=>Br_iff.2 ⟨λq=>?_,λq=>lens ?_⟩,λhp=>lens (by simp[hp])⟩
   ·simp[fld,nth,intOf] at q
    exact(by rw[←h];simp[hp,q]:R=false)▸hQ
   ·simp[fld,nth,intOf] at q
    simp[q]
 ·rw[ne_true hl,Br_true]
  rw[eqBy_len hl] at hQ
  exact hQ
theorem one_expr{x:Dat}(hx:HasTy TT 25 x):HasTy TT 22 (.sl 7 [x]):=
 .sl _ _ _ _ undExprs (by kernel_rfl) ⟨by simp,λb hb=>by
  have:TT.bytes 25=some 104:=by kernel_rfl
  rw[this] at hb;cases hb;simp⟩ (by simpa using hx)
theorem refSame_ok(pl:Bool)(x y:Dat)(g:Glob)(hx:HasTy TT 44 x)(hy:HasTy TT 44 y)(Qf:OGP)(hQ:Qf (.val (.d (.bool (eqPg pl (absPg x) (absPg y))))) g):EvF TT 23 [x,y,.bool pl] g Qf:=by
 refine w23 hx hy ?_
 obtain⟨d1,k1,s1,r1,n1,a1,b1,p1,rfl,hd1,he1⟩:=prog_ty hx
 obtain⟨d2,k2,s2,r2,n2,a2,b2,p2,rfl,hd2,he2⟩:=prog_ty hy
 simp only[eqPg,absPg] at hQ
 refine declsOk pl d1 d2 g hd1 hd2 _ ⟨_,rfl,Br_iff.2 ⟨λq=>?_,λq=>?_⟩⟩
 ·refine sameExprs_ok pl _ _ _ g (Nat.lt_succ_self _) (one_expr he1) (one_expr he2) _ ⟨_,rfl,?_⟩
  have:eqBy (eqDc pl) ((elsOf (fld (.agg [d1,.int .i64 k1,.str s1,.str r1,.int .i64 n1,a1,b1,.int .i64 p1]) 0)).map absDc) ((elsOf (fld (.agg [d2,.int .i64 k2,.str s2,.str r2,.int .i64 n2,a2,b2,.int .i64 p2]) 0)).map absDc)=true:=q
  rw[this,Bool.true_and] at hQ
  simpa[absExA,absExL,eqExs,sub] using hQ
 ·have:eqBy (eqDc pl) ((elsOf (fld (.agg [d1,.int .i64 k1,.str s1,.str r1,.int .i64 n1,a1,b1,.int .i64 p1]) 0)).map absDc) ((elsOf (fld (.agg [d2,.int .i64 k2,.str s2,.str r2,.int .i64 n2,a2,b2,.int .i64 p2]) 0)).map absDc)=false:=q
  rw[this,Bool.false_and] at hQ
  exact hQ
end Go.Proofs.YtmlghadphdpbjaaGreatDoor.Pa
namespace Go.Proofs.YtmlghadphdpbjaaGreatDoor.Pa
open Go Go.Proofs.YtmlghadphdpbjaaGreatDoor.Am
end Go.Proofs.YtmlghadphdpbjaaGreatDoor.Pa
namespace Go.Proofs.YtmlghadphdpbjaaGreatDoor.Pa
open Go Go.Proofs.YtmlghadphdpbjaaGreatDoor.Am
def L34_3(x0:Dat)(l3:List Dat)(n4:Int)(g:Glob)(Qf:OGP):Prop:=CutP TT Tryz.f34 [1,1,0,1,0] Qf (mkC TT 34 Tryz.f34 1 [(0,.v 26 (x0)),(3,.acc [(23,0)] 26 4 l3),(4,.v 3 (.int .i64 n4))] [] g)
def lo34:List CutI:=[⟨3,[(0,.keep),(3,.acc [23]),(4,.keep)],[]⟩]
theorem w34{x0:Dat}{g:Glob}{Qf:OGP}(h0:HasTy TT 26 x0)
 (h:L34_3 x0 [] 0 g Qf):
 EvF TT 34 [x0] g Qf:=
 sx_fun (rk:=rk) (fn:=Tryz.f34) (loops:=lo34) (joins:=[]) (n:=100000) (args:=[(26,x0)]) rfl rfl rfl rfl ⟨h0,trivial⟩ (by kernel_rfl) h
theorem w34_3{x0:Dat}{l3:List Dat}{n4:Int}{g:Glob}{Qf:OGP}
 (h:Br (decide (n4<(↑(elsOf x0).length:Int))) (InB n4 (elsOf x0).length∧EvF TT 34 [fld (getE (elsOf x0) n4) 3] g (KQ Qf λv g'=>∃x,HasTy TT 26 x∧RetV v x∧Fits (l3.length+[Dat.agg [.int .i64 (intOf (fld (getE (elsOf x0) n4) 0)),.str (strOf (fld (getE (elsOf x0) n4) 1)),.int .i64 (intOf (fld (getE (elsOf x0) n4) 2)),x]].length) 56∧L34_3 x0 (l3++[Dat.agg [.int .i64 (intOf (fld (getE (elsOf x0) n4) 0)),.str (strOf (fld (getE (elsOf x0) n4) 1)),.int .i64 (intOf (fld (getE (elsOf x0) n4) 2)),x]]) (IntKind.i64.wrap (n4+1)) g' Qf)) (Qf (.val (retOf 4 l3)) g)):
 L34_3 x0 l3 n4 g Qf:=sx_cut (rk:=rk) (loops:=lo34) (joins:=[]) (n:=100000) (by kernel_rfl) h
def L29_3(x0:Dat)(l3:List Dat)(n4:Int)(g:Glob)(Qf:OGP):Prop:=CutP TT Tryz.f29 [1,1,0,1,0] Qf (mkC TT 29 Tryz.f29 1 [(0,.v 23 (x0)),(3,.acc [(23,0)] 23 5 l3),(4,.v 3 (.int .i64 n4))] [] g)
def lo29:List CutI:=[⟨3,[(0,.keep),(3,.acc [23]),(4,.keep)],[]⟩]
theorem w29{x0:Dat}{g:Glob}{Qf:OGP}(h0:HasTy TT 23 x0)
 (h:L29_3 x0 [] 0 g Qf):
 EvF TT 29 [x0] g Qf:=
 sx_fun (rk:=rk) (fn:=Tryz.f29) (loops:=lo29) (joins:=[]) (n:=100000) (args:=[(23,x0)]) rfl rfl rfl rfl ⟨h0,trivial⟩ (by kernel_rfl) h
theorem w29_3{x0:Dat}{l3:List Dat}{n4:Int}{g:Glob}{Qf:OGP}
 (h:Br (decide (n4<(↑(elsOf x0).length:Int))) (InB n4 (elsOf x0).length∧EvF TT 29 [fld (getE (elsOf x0) n4) 3] g (KQ Qf λv g'=>∃x,HasTy TT 23 x∧RetV v x∧Fits (l3.length+[Dat.agg [.int .i64 (intOf (fld (getE (elsOf x0) n4) 0)),.str (strOf (fld (getE (elsOf x0) n4) 1)),.int .i64 (intOf (fld (getE (elsOf x0) n4) 2)),x,.int .i64 (intOf (fld (getE (elsOf x0) n4) 4))]].length) 64∧L29_3 x0 (l3++[Dat.agg [.int .i64 (intOf (fld (getE (elsOf x0) n4) 0)),.str (strOf (fld (getE (elsOf x0) n4) 1)),.int .i64 (intOf (fld (getE (elsOf x0) n4) 2)),x,.int .i64 (intOf (fld (getE (elsOf x0) n4) 4))]]) (IntKind.i64.wrap (n4+1)) g' Qf)) (Qf (.val (retOf 5 l3)) g)):
 L29_3 x0 l3 n4 g Qf:=sx_cut (rk:=rk) (loops:=lo29) (joins:=[]) (n:=100000) (by kernel_rfl) h
def L12_3(x0:Dat)(l3:List Dat)(n4:Int)(g:Glob)(Qf:OGP):Prop:=CutP TT Tryz.f12 [1,1,0,1,0] Qf (mkC TT 12 Tryz.f12 1 [(0,.v 22 (x0)),(3,.acc [(27,0)] 22 7 l3),(4,.v 3 (.int .i64 n4))] [] g)
def lo12:List CutI:=[⟨3,[(0,.keep),(3,.acc [27]),(4,.keep)],[]⟩]
theorem w12{x0:Dat}{g:Glob}{Qf:OGP}(h0:HasTy TT 22 x0)
 (h:L12_3 x0 [] 0 g Qf):
 EvF TT 12 [x0] g Qf:=
 sx_fun (rk:=rk) (fn:=Tryz.f12) (loops:=lo12) (joins:=[]) (n:=100000) (args:=[(22,x0)]) rfl rfl rfl rfl ⟨h0,trivial⟩ (by kernel_rfl) h
theorem w12_3{x0:Dat}{l3:List Dat}{n4:Int}{g:Glob}{Qf:OGP}
 (h:Br (decide (n4<(↑(elsOf x0).length:Int))) (InB n4 (elsOf x0).length∧EvF TT 12 [fld (getE (elsOf x0) n4) 4] g (KQ Qf λv g'=>∃x,HasTy TT 22 x∧RetV v x∧EvF TT 29 [fld (getE (elsOf x0) n4) 5] g' (KQ Qf λv g'=>∃x_1,HasTy TT 23 x_1∧RetV v x_1∧Fits (l3.length+[Dat.agg [.int .i64 (intOf (fld (getE (elsOf x0) n4) 0)),.str (strOf (fld (getE (elsOf x0) n4) 1)),.str (strOf (fld (getE (elsOf x0) n4) 2)),.int .i64 (intOf (fld (getE (elsOf x0) n4) 3)),x,x_1,.int .i64 (intOf (fld (getE (elsOf x0) n4) 6))]].length) 104∧L12_3 x0 (l3++[Dat.agg [.int .i64 (intOf (fld (getE (elsOf x0) n4) 0)),.str (strOf (fld (getE (elsOf x0) n4) 1)),.str (strOf (fld (getE (elsOf x0) n4) 2)),.int .i64 (intOf (fld (getE (elsOf x0) n4) 3)),x,x_1,.int .i64 (intOf (fld (getE (elsOf x0) n4) 6))]]) (IntKind.i64.wrap (n4+1)) g' Qf))) (Qf (.val (retOf 7 l3)) g)):
 L12_3 x0 l3 n4 g Qf:=sx_cut (rk:=rk) (loops:=lo12) (joins:=[]) (n:=100000) (by kernel_rfl) h
def L41_3(x0:Dat)(l3:List Dat)(n4:Int)(g:Glob)(Qf:OGP):Prop:=CutP TT Tryz.f41 [1,1,0,1,0] Qf (mkC TT 41 Tryz.f41 1 [(0,.v 42 (x0)),(3,.acc [(52,0)] 42 4 l3),(4,.v 3 (.int .i64 n4))] [] g)
def L41_9(x0:Dat)(l3:List Dat)(n4:Int)(l6:List Dat)(n7:Int)(y5:Dat)(g:Glob)(Qf:OGP):Prop:=CutP TT Tryz.f41 [1,1,0,1,0,0,1,0,0,1,1,1,0,1,0] Qf (mkC TT 41 Tryz.f41 1 [(0,.v 42 (x0)),(3,.acc [(52,0)] 42 4 l3),(4,.v 3 (.int .i64 n4)),(5,.loc 5 0 0),(6,.acc [(46,0)] 48 2 l6),(7,.v 3 (.int .i64 n7))] [(5,.whole 50 y5)] g)
def lo41:List CutI:=[⟨3,[(0,.keep),(3,.acc [52]),(4,.keep)],[]⟩,⟨9,[(0,.keep),(3,.acc [52]),(4,.keep),(5,.keep),(6,.acc [46]),(7,.keep)],[(5,.whole 50)]⟩]
theorem w41{x0:Dat}{g:Glob}{Qf:OGP}(h0:HasTy TT 42 x0)
 (h:L41_3 x0 [] 0 g Qf):
 EvF TT 41 [x0] g Qf:=
 sx_fun (rk:=rk) (fn:=Tryz.f41) (loops:=lo41) (joins:=[]) (n:=100000) (args:=[(42,x0)]) rfl rfl rfl rfl ⟨h0,trivial⟩ (by kernel_rfl) h
theorem w41_3{x0:Dat}{l3:List Dat}{n4:Int}{g:Glob}{Qf:OGP}
 (h:Br (decide (n4<(↑(elsOf x0).length:Int))) (InB n4 (elsOf x0).length∧Fits (0+(elsOf (fld (getE (elsOf x0) n4) 1)).length) 16∧L41_9 x0 l3 n4 [] 0 (.agg [.str (strOf (fld (getE (elsOf x0) n4) 0)),.sl 1 ([]++elsOf (fld (getE (elsOf x0) n4) 1)),fld (getE (elsOf x0) n4) 2,.int .i64 (intOf (fld (getE (elsOf x0) n4) 3))]) g Qf) (Qf (.val (retOf 4 l3)) g)):
 L41_3 x0 l3 n4 g Qf:=sx_cut (rk:=rk) (loops:=lo41) (joins:=[]) (n:=100000) (by kernel_rfl) h
theorem w41_9{x0:Dat}{l3:List Dat}{n4:Int}{l6:List Dat}{n7:Int}{y5:Dat}{g:Glob}{Qf:OGP}
 (h:Br (decide (n7<(↑(elsOf (fld y5 2)).length:Int))) (InB n7 (elsOf (fld y5 2)).length∧InB n7 (elsOf (fld y5 2)).length∧EvF TT 34 [fld (getE (elsOf (fld y5 2)) n7) 1] g (KQ Qf λv g'=>∃x,HasTy TT 26 x∧RetV v x∧Fits (l6.length+[Dat.agg [.str (strOf (fld (getE (elsOf (fld y5 2)) n7) 0)),x]].length) 40∧L41_9 x0 l3 n4 (l6++[Dat.agg [.str (strOf (fld (getE (elsOf (fld y5 2)) n7) 0)),x]]) (IntKind.i64.wrap (n7+1)) y5 g' Qf)) (Fits (l3.length+[Dat.agg [.str (strOf (fld y5 0)),fld y5 1,slOf 2 l6,.int .i64 (intOf (fld y5 3))]].length) 72∧L41_3 x0 (l3++[Dat.agg [.str (strOf (fld y5 0)),fld y5 1,slOf 2 l6,.int .i64 (intOf (fld y5 3))]]) (IntKind.i64.wrap (n4+1)) g Qf)):
 L41_9 x0 l3 n4 l6 n7 y5 g Qf:=sx_cut (rk:=rk) (loops:=lo41) (joins:=[]) (n:=100000) (by kernel_rfl) h
def lo20:List CutI:=[]
theorem w20{x0:Dat}{g:Glob}{Qf:OGP}(h0:HasTy TT 44 x0)
 (h:EvF TT 41 [fld x0 0] g (KQ Qf λv g'=>∃x,HasTy TT 42 x∧RetV v x∧EvF TT 12 [.sl 7 [sub x0 1 7]] g' (KQ Qf λv g'=>∃x_1,HasTy TT 22 x_1∧RetV v x_1∧InB 0 (elsOf x_1).length∧Qf (.val (.d (.agg [x,.int .i64 (intOf (.int .i64 (intOf (fld (getE (elsOf x_1) 0) 0)))),.str (strOf (.str (strOf (fld (getE (elsOf x_1) 0) 1)))),.str (strOf (.str (strOf (fld (getE (elsOf x_1) 0) 2)))),.int .i64 (intOf (.int .i64 (intOf (fld (getE (elsOf x_1) 0) 3)))),fld (.agg [x,.int .i64 (intOf (fld (getE (elsOf x_1) 0) 0)),.str (strOf (fld (getE (elsOf x_1) 0) 1)),.str (strOf (fld (getE (elsOf x_1) 0) 2)),.int .i64 (intOf (fld (getE (elsOf x_1) 0) 3)),fld (getE (elsOf x_1) 0) 4,fld (getE (elsOf x_1) 0) 5,.int .i64 (intOf (fld (getE (elsOf x_1) 0) 6))]) 5,fld (.agg [x,.int .i64 (intOf (fld (getE (elsOf x_1) 0) 0)),.str (strOf (fld (getE (elsOf x_1) 0) 1)),.str (strOf (fld (getE (elsOf x_1) 0) 2)),.int .i64 (intOf (fld (getE (elsOf x_1) 0) 3)),fld (getE (elsOf x_1) 0) 4,fld (getE (elsOf x_1) 0) 5,.int .i64 (intOf (fld (getE (elsOf x_1) 0) 6))]) 6,.int .i64 (intOf (.int .i64 (intOf (fld (getE (elsOf x_1) 0) 6))))]))) g'))):
 EvF TT 20 [x0] g Qf:=
 sx_fun (rk:=rk) (fn:=Tryz.f20) (loops:=lo20) (joins:=[]) (n:=100000) (args:=[(44,x0)]) rfl rfl rfl rfl ⟨h0,trivial⟩ (by kernel_rfl) h
def L25_5(n1:Int)(n2:Int)(n7:Int)(y3:Dat)(g:Glob)(Qf:OGP):Prop:=CutP TT Tryz.f25 [1,1,1,0,1,0] Qf (mkC TT 25 Tryz.f25 3 [(1,.v 3 (.int .i64 n1)),(2,.v 3 (.int .i64 n2)),(3,.loc 3 0 0),(7,.v 3 (.int .i64 n7))] [(3,.whole 28 y3)] g)
def lo25:List CutI:=[⟨5,[(1,.keep),(2,.keep),(3,.keep),(7,.keep)],[(3,.whole 28)]⟩]
theorem w25{x0:Dat}{n1:Int}{n2:Int}{g:Glob}{Qf:OGP}(h0:HasTy TT 28 x0)
 (h:NeZ 10∧Br (decide (20000<IntKind.i64.wrap (n2+IntKind.i64.wrap (1+IntKind.i64.wrap ((↑(elsOf (fld x0 3)).length:Int).tdiv 10))))) (Qf (.val (.d (.int .i64 (-1)))) g) (Br (decide (600<n1)) (Qf (.val (.d (.int .i64 (-1)))) g) (L25_5 n1 (IntKind.i64.wrap (n2+IntKind.i64.wrap (1+IntKind.i64.wrap ((↑(elsOf (fld x0 3)).length:Int).tdiv 10)))) 0 x0 g Qf))):
 EvF TT 25 [x0,.int .i64 n1,.int .i64 n2] g Qf:=
 sx_fun (rk:=rk) (fn:=Tryz.f25) (loops:=lo25) (joins:=[]) (n:=100000) (args:=[(28,x0),(3,.int .i64 n1),(3,.int .i64 n2)]) rfl rfl rfl rfl ⟨h0,tyInt rfl,tyInt rfl,trivial⟩ (by kernel_rfl) h
theorem w25_5{n1:Int}{n2:Int}{n7:Int}{y3:Dat}{g:Glob}{Qf:OGP}
 (h:Br (decide (n7<(↑(elsOf (fld y3 3)).length:Int))) (Br (decide (0≤n2)) (InB n7 (elsOf (fld y3 3)).length∧EvF TT 25 [getE (elsOf (fld y3 3)) n7,.int .i64 (IntKind.i64.wrap (n1+1)),.int .i64 n2] g (KQ Qf λv g'=>∃n,v=.d (.int .i64 n)∧L25_5 n1 n (IntKind.i64.wrap (n7+1)) y3 g' Qf)) (Qf (.val (.d (.int .i64 n2))) g)) (Qf (.val (.d (.int .i64 n2))) g)):
 L25_5 n1 n2 n7 y3 g Qf:=sx_cut (rk:=rk) (loops:=lo25) (joins:=[]) (n:=100000) (by kernel_rfl) h
def L47_5(n1:Int)(n2:Int)(n7:Int)(y3:Dat)(g:Glob)(Qf:OGP):Prop:=CutP TT Tryz.f47 [1,1,1,0,1,0] Qf (mkC TT 47 Tryz.f47 3 [(1,.v 3 (.int .i64 n1)),(2,.v 3 (.int .i64 n2)),(3,.loc 3 0 0),(7,.v 3 (.int .i64 n7))] [(3,.whole 94 y3)] g)
def lo47:List CutI:=[⟨5,[(1,.keep),(2,.keep),(3,.keep),(7,.keep)],[(3,.whole 94)]⟩]
theorem w47{x0:Dat}{n1:Int}{n2:Int}{g:Glob}{Qf:OGP}(h0:HasTy TT 94 x0)
 (h:NeZ 10∧Br (decide (20000<IntKind.i64.wrap (n2+IntKind.i64.wrap (1+IntKind.i64.wrap ((↑(elsOf (fld x0 3)).length:Int).tdiv 10))))) (Qf (.val (.d (.int .i64 (-1)))) g) (Br (decide (600<n1)) (Qf (.val (.d (.int .i64 (-1)))) g) (L47_5 n1 (IntKind.i64.wrap (n2+IntKind.i64.wrap (1+IntKind.i64.wrap ((↑(elsOf (fld x0 3)).length:Int).tdiv 10)))) 0 x0 g Qf))):
 EvF TT 47 [x0,.int .i64 n1,.int .i64 n2] g Qf:=
 sx_fun (rk:=rk) (fn:=Tryz.f47) (loops:=lo47) (joins:=[]) (n:=100000) (args:=[(94,x0),(3,.int .i64 n1),(3,.int .i64 n2)]) rfl rfl rfl rfl ⟨h0,tyInt rfl,tyInt rfl,trivial⟩ (by kernel_rfl) h
theorem w47_5{n1:Int}{n2:Int}{n7:Int}{y3:Dat}{g:Glob}{Qf:OGP}
 (h:Br (decide (n7<(↑(elsOf (fld y3 3)).length:Int))) (Br (decide (0≤n2)) (InB n7 (elsOf (fld y3 3)).length∧EvF TT 47 [getE (elsOf (fld y3 3)) n7,.int .i64 (IntKind.i64.wrap (n1+1)),.int .i64 n2] g (KQ Qf λv g'=>∃n,v=.d (.int .i64 n)∧L47_5 n1 n (IntKind.i64.wrap (n7+1)) y3 g' Qf)) (Qf (.val (.d (.int .i64 n2))) g)) (Qf (.val (.d (.int .i64 n2))) g)):
 L47_5 n1 n2 n7 y3 g Qf:=sx_cut (rk:=rk) (loops:=lo47) (joins:=[]) (n:=100000) (by kernel_rfl) h
def L24_5(n1:Int)(n2:Int)(n7:Int)(y3:Dat)(g:Glob)(Qf:OGP):Prop:=CutP TT Tryz.f24 [1,1,1,0,1,0] Qf (mkC TT 24 Tryz.f24 3 [(1,.v 3 (.int .i64 n1)),(2,.v 3 (.int .i64 n2)),(3,.loc 3 0 0),(7,.v 3 (.int .i64 n7))] [(3,.whole 25 y3)] g)
def L24_9(n1:Int)(n2:Int)(n8:Int)(y3:Dat)(g:Glob)(Qf:OGP):Prop:=CutP TT Tryz.f24 [1,1,1,1,0,1,0] Qf (mkC TT 24 Tryz.f24 3 [(1,.v 3 (.int .i64 n1)),(2,.v 3 (.int .i64 n2)),(3,.loc 3 0 0),(8,.v 3 (.int .i64 n8))] [(3,.whole 25 y3)] g)
def lo24:List CutI:=[⟨5,[(1,.keep),(2,.keep),(3,.keep),(7,.keep)],[(3,.whole 25)]⟩,⟨9,[(1,.keep),(2,.keep),(3,.keep),(8,.keep)],[(3,.whole 25)]⟩]
theorem w24{x0:Dat}{n1:Int}{n2:Int}{g:Glob}{Qf:OGP}(h0:HasTy TT 25 x0)
 (h:NeZ 10∧NeZ 10∧Br (decide (20000<IntKind.i64.wrap (n2+IntKind.i64.wrap (IntKind.i64.wrap (1+IntKind.i64.wrap ((↑(elsOf (fld x0 4)).length:Int).tdiv 10))+IntKind.i64.wrap ((↑(elsOf (fld x0 5)).length:Int).tdiv 10))))) (Qf (.val (.d (.int .i64 (-1)))) g) (Br (decide (600<n1)) (Qf (.val (.d (.int .i64 (-1)))) g) (L24_5 n1 (IntKind.i64.wrap (n2+IntKind.i64.wrap (IntKind.i64.wrap (1+IntKind.i64.wrap ((↑(elsOf (fld x0 4)).length:Int).tdiv 10))+IntKind.i64.wrap ((↑(elsOf (fld x0 5)).length:Int).tdiv 10)))) 0 x0 g Qf))):
 EvF TT 24 [x0,.int .i64 n1,.int .i64 n2] g Qf:=
 sx_fun (rk:=rk) (fn:=Tryz.f24) (loops:=lo24) (joins:=[]) (n:=100000) (args:=[(25,x0),(3,.int .i64 n1),(3,.int .i64 n2)]) rfl rfl rfl rfl ⟨h0,tyInt rfl,tyInt rfl,trivial⟩ (by kernel_rfl) h
theorem w24_5{n1:Int}{n2:Int}{n7:Int}{y3:Dat}{g:Glob}{Qf:OGP}
 (h:Br (decide (n7<(↑(elsOf (fld y3 5)).length:Int))) (Br (decide (0≤n2)) (InB n7 (elsOf (fld y3 5)).length∧EvF TT 47 [getE (elsOf (fld y3 5)) n7,.int .i64 (IntKind.i64.wrap (n1+1)),.int .i64 n2] g (KQ Qf λv g'=>∃n,v=.d (.int .i64 n)∧L24_5 n1 n (IntKind.i64.wrap (n7+1)) y3 g' Qf)) (L24_9 n1 n2 0 y3 g Qf)) (L24_9 n1 n2 0 y3 g Qf)):
 L24_5 n1 n2 n7 y3 g Qf:=sx_cut (rk:=rk) (loops:=lo24) (joins:=[]) (n:=100000) (by kernel_rfl) h
theorem w24_9{n1:Int}{n2:Int}{n8:Int}{y3:Dat}{g:Glob}{Qf:OGP}
 (h:Br (decide (n8<(↑(elsOf (fld y3 4)).length:Int))) (Br (decide (0≤n2)) (InB n8 (elsOf (fld y3 4)).length∧EvF TT 24 [getE (elsOf (fld y3 4)) n8,.int .i64 (IntKind.i64.wrap (n1+1)),.int .i64 n2] g (KQ Qf λv g'=>∃n,v=.d (.int .i64 n)∧L24_9 n1 n (IntKind.i64.wrap (n8+1)) y3 g' Qf)) (Qf (.val (.d (.int .i64 n2))) g)) (Qf (.val (.d (.int .i64 n2))) g)):
 L24_9 n1 n2 n8 y3 g Qf:=sx_cut (rk:=rk) (loops:=lo24) (joins:=[]) (n:=100000) (by kernel_rfl) h
def L40_5(x0:Dat)(n3:Int)(n4:Int)(g:Glob)(Qf:OGP):Prop:=CutP TT Tryz.f40 [1,1,1,0,1,0] Qf (mkC TT 40 Tryz.f40 1 [(0,.v 42 (x0)),(3,.v 3 (.int .i64 n3)),(4,.v 3 (.int .i64 n4))] [] g)
def L40_10(x0:Dat)(n3:Int)(n4:Int)(n5:Int)(g:Glob)(Qf:OGP):Prop:=CutP TT Tryz.f40 [1,1,1,0,1,0,0,1,0,0,1,1,0] Qf (mkC TT 40 Tryz.f40 1 [(0,.v 42 (x0)),(3,.v 3 (.int .i64 n3)),(4,.v 3 (.int .i64 n4)),(5,.v 3 (.int .i64 n5))] [] g)
def L40_15(x0:Dat)(n3:Int)(n4:Int)(n5:Int)(n6:Int)(g:Glob)(Qf:OGP):Prop:=CutP TT Tryz.f40 [1,1,1,0,1,0,0,1,0,0,1,1,0,0,1,0,0,1,0,1,0] Qf (mkC TT 40 Tryz.f40 1 [(0,.v 42 (x0)),(3,.v 3 (.int .i64 n3)),(4,.v 3 (.int .i64 n4)),(5,.v 3 (.int .i64 n5)),(6,.v 3 (.int .i64 n6))] [] g)
def lo40:List CutI:=[⟨5,[(0,.keep),(3,.keep),(4,.keep)],[]⟩,⟨10,[(0,.keep),(3,.keep),(4,.keep),(5,.keep)],[]⟩,⟨15,[(0,.keep),(3,.keep),(4,.keep),(5,.keep),(6,.keep)],[]⟩]
theorem w40{x0:Dat}{g:Glob}{Qf:OGP}(h0:HasTy TT 42 x0)
 (h:Br (decide (200<(↑(elsOf x0).length:Int))) (Qf (.val (.d (.bool true))) g) (L40_5 x0 0 0 g Qf)):
 EvF TT 40 [x0] g Qf:=
 sx_fun (rk:=rk) (fn:=Tryz.f40) (loops:=lo40) (joins:=[]) (n:=100000) (args:=[(42,x0)]) rfl rfl rfl rfl ⟨h0,trivial⟩ (by kernel_rfl) h
theorem w40_5{x0:Dat}{n3:Int}{n4:Int}{g:Glob}{Qf:OGP}
 (h:Br (decide (n4<(↑(elsOf x0).length:Int))) (InB n4 (elsOf x0).length∧Br (decide (200<(↑(elsOf (fld (getE (elsOf x0) n4) 2)).length:Int))) (Qf (.val (.d (.bool true))) g) (InB n4 (elsOf x0).length∧Br (decide (200<(↑(elsOf (fld (getE (elsOf x0) n4) 1)).length:Int))) (Qf (.val (.d (.bool true))) g) (L40_10 x0 n3 n4 0 g Qf))) (Qf (.val (.d (.bool false))) g)):
 L40_5 x0 n3 n4 g Qf:=sx_cut (rk:=rk) (loops:=lo40) (joins:=[]) (n:=100000) (by kernel_rfl) h
theorem w40_10{x0:Dat}{n3:Int}{n4:Int}{n5:Int}{g:Glob}{Qf:OGP}
 (h:InB n4 (elsOf x0).length∧Br (decide (n5<(↑(elsOf (fld (getE (elsOf x0) n4) 2)).length:Int))) (InB n4 (elsOf x0).length∧InB n5 (elsOf (fld (getE (elsOf x0) n4) 2)).length∧Br (decide (200<(↑(elsOf (fld (getE (elsOf (fld (getE (elsOf x0) n4) 2)) n5) 1)).length:Int))) (Qf (.val (.d (.bool true))) g) (L40_15 x0 n3 n4 n5 0 g Qf)) (L40_5 x0 n3 (IntKind.i64.wrap (n4+1)) g Qf)):
 L40_10 x0 n3 n4 n5 g Qf:=sx_cut (rk:=rk) (loops:=lo40) (joins:=[]) (n:=100000) (by kernel_rfl) h
theorem w40_15{x0:Dat}{n3:Int}{n4:Int}{n5:Int}{n6:Int}{g:Glob}{Qf:OGP}
 (h:InB n4 (elsOf x0).length∧InB n5 (elsOf (fld (getE (elsOf x0) n4) 2)).length∧Br (decide (n6<(↑(elsOf (fld (getE (elsOf (fld (getE (elsOf x0) n4) 2)) n5) 1)).length:Int))) (Br (decide (0≤n3)) (InB n4 (elsOf x0).length∧InB n5 (elsOf (fld (getE (elsOf x0) n4) 2)).length∧InB n6 (elsOf (fld (getE (elsOf (fld (getE (elsOf x0) n4) 2)) n5) 1)).length∧EvF TT 25 [getE (elsOf (fld (getE (elsOf (fld (getE (elsOf x0) n4) 2)) n5) 1)) n6,.int .i64 0,.int .i64 n3] g (KQ Qf λv g'=>∃n,v=.d (.int .i64 n)∧L40_15 x0 n n4 n5 (IntKind.i64.wrap (n6+1)) g' Qf)) (Br (decide (n3<0)) (Qf (.val (.d (.bool true))) g) (L40_10 x0 n3 n4 (IntKind.i64.wrap (n5+1)) g Qf))) (Br (decide (n3<0)) (Qf (.val (.d (.bool true))) g) (L40_10 x0 n3 n4 (IntKind.i64.wrap (n5+1)) g Qf))):
 L40_15 x0 n3 n4 n5 n6 g Qf:=sx_cut (rk:=rk) (loops:=lo40) (joins:=[]) (n:=100000) (by kernel_rfl) h
def lo8:List CutI:=[]
theorem w8{x0:Dat}{g:Glob}{Qf:OGP}(h0:HasTy TT 25 x0)
 (h:EvF TT 24 [x0,.int .i64 0,.int .i64 0] g (KQ Qf λv g'=>∃n,v=.d (.int .i64 n)∧Qf (.val (.d (.bool (decide (n<0))))) g')):
 EvF TT 8 [x0] g Qf:=
 sx_fun (rk:=rk) (fn:=Tryz.f8) (loops:=lo8) (joins:=[]) (n:=100000) (args:=[(25,x0)]) rfl rfl rfl rfl ⟨h0,trivial⟩ (by kernel_rfl) h
def lo19:List CutI:=[]
theorem w19{x0:Dat}{g:Glob}{Qf:OGP}(h0:HasTy TT 44 x0)
 (h:EvF TT 40 [fld x0 0] g (KQ Qf λv g'=>∃b,v=.d (.bool b)∧Br b (Qf (.val (.d (.bool true))) g') (EvF TT 8 [sub x0 1 7] g' (KQ Qf λv g'=>∃b,v=.d (.bool b)∧Qf (.val (.d (.bool b))) g')))):
 EvF TT 19 [x0] g Qf:=
 sx_fun (rk:=rk) (fn:=Tryz.f19) (loops:=lo19) (joins:=[]) (n:=100000) (args:=[(44,x0)]) rfl rfl rfl rfl ⟨h0,trivial⟩ (by kernel_rfl) h
end Go.Proofs.YtmlghadphdpbjaaGreatDoor.Pa
namespace Go.Proofs.YtmlghadphdpbjaaGreatDoor.Pa
open Go Go.Proofs.YtmlghadphdpbjaaGreatDoor.Am
theorem retOf_ret(m:Nat)(l:List Dat):RetV (retOf m l) (slOf m l):=by cases l<;>rfl
theorem byType:TT.bytes 28=some 56:=by kernel_rfl
theorem byPat:TT.bytes 94=some 64:=by kernel_rfl
theorem byExpr:TT.bytes 25=some 104:=by kernel_rfl
theorem byCon:TT.bytes 52=some 40:=by kernel_rfl
theorem byDecl:TT.bytes 50=some 72:=by kernel_rfl
theorem byStr:TT.bytes 9=some 16:=by kernel_rfl
theorem szType:TT.size 28=some 4:=by kernel_rfl
theorem szPat:TT.size 94=some 5:=by kernel_rfl
theorem szExpr:TT.size 25=some 7:=by kernel_rfl
theorem szCon:TT.size 52=some 2:=by kernel_rfl
theorem szDecl:TT.size 50=some 4:=by kernel_rfl
theorem szStr:TT.size 9=some 1:=by kernel_rfl
theorem take_snoc{α β:Type}{f:α→β}{xs:List α}{ys:List α}{i:Nat}{y:α}(hi:i<xs.length)(h:ys.map f=(xs.take i).map f)(hy:f y=f xs[i]):(ys++[y]).map f=(xs.take (i+1)).map f:=by
 rw[List.map_append,h,List.take_succ_eq_append_getElem hi,List.map_append,List.map_singleton,List.map_singleton,hy]
theorem copyTypes_ok:∀(k:Nat) (x:Dat) (g:Glob),SizeOf.sizeOf x<k→HasTy TT 26 x→∀(Qf:OGP),(∀l:List Dat,(∀y∈l,HasTy TT 28 y)→l.length=(elsOf x).length→l.map absTy=(elsOf x).map absTy→Qf (.val (retOf 4 l)) g)→EvF TT 34 [x] g Qf
 |0,x,g,hk,_=>by omega
 |k+1,x,g,hk,hx=>by
  intro Qf hQ
  have ex:=hx.els undTypes
  have exl:=ex.1.1
  refine w34 hx ?_
  refine loopUp (len:=(elsOf x).length) (λi=>∀l:List Dat,l.length=i→(∀y∈l,HasTy TT 28 y)→l.map absTy=((elsOf x).take i).map absTy→L34_3 x l (i:Int) g Qf) ?_ ?_ 0 (Nat.zero_le _) [] rfl (λy h=>by cases h) rfl
  ·intro l h1 h2 h3
   refine w34_3 ?_
   rw[Br_ge]
   rw[List.take_length] at h3
   exact hQ l h2 h1 h3
  ·intro i hi ih l h1 h2 h3
   refine w34_3 ?_
   rw[Br_lt hi,getE_nat hi]
   have hsz:=sizeOf_el hi
   obtain⟨k1,s1,n1,a1,e1,hs1,t1⟩:=type_ty (ex.2 _ (List.getElem_mem hi))
   have hab:absTy (elsOf x)[i]=.mk k1 s1 n1 (absTyA a1):=by rw[e1];rfl
   rw[e1] at hsz⊢
   have hc:=sizeOf_cell (cs:=[.int .i64 k1,.str s1,.int .i64 n1,a1]) (c:=a1) (by simp)
   refine⟨inB hi,copyTypes_ok k a1 g (by omega) t1 _ λl' hl' hn' ha'=>?_⟩
   have ta:HasTy TT 26 (slOf 4 l'):=slOf_ty undTypes szType (by rw[hn'];exact(t1.els undTypes).1) hl'
   refine⟨slOf 4 l',ta,retOf_ret _ _,(ex.1.le (by simp;omega)).fits byType,?_⟩
   rw[wrap_nat (by omega)]
   refine ih _ (by simp[h1]) (λy hy=>?_) (take_snoc hi h3 ?_)
   ·rcases List.mem_append.1 hy with hy|hy
    ·exact h2 y hy
    ·simp only[List.mem_singleton] at hy;subst hy;exact ty_type hs1 ta
   ·rw[hab]
    show Ty.mk k1 s1 n1 (absTyA (slOf 4 l'))=_
    rw[absTyA_map,slOf_els,ha',←absTyA_map]
theorem copyPats_ok:∀(k:Nat) (x:Dat) (g:Glob),SizeOf.sizeOf x<k→HasTy TT 23 x→∀(Qf:OGP),(∀l:List Dat,(∀y∈l,HasTy TT 94 y)→l.length=(elsOf x).length→l.map absPt=(elsOf x).map absPt→Qf (.val (retOf 5 l)) g)→EvF TT 29 [x] g Qf
 |0,x,g,hk,_=>by omega
 |k+1,x,g,hk,hx=>by
  intro Qf hQ
  have ex:=hx.els undPats
  have exl:=ex.1.1
  refine w29 hx ?_
  refine loopUp (len:=(elsOf x).length) (λi=>∀l:List Dat,l.length=i→(∀y∈l,HasTy TT 94 y)→l.map absPt=((elsOf x).take i).map absPt→L29_3 x l (i:Int) g Qf) ?_ ?_ 0 (Nat.zero_le _) [] rfl (λy h=>by cases h) rfl
  ·intro l h1 h2 h3
   refine w29_3 ?_
   rw[Br_ge]
   rw[List.take_length] at h3
   exact hQ l h2 h1 h3
  ·intro i hi ih l h1 h2 h3
   refine w29_3 ?_
   rw[Br_lt hi,getE_nat hi]
   have hsz:=sizeOf_el hi
   obtain⟨k1,s1,n1,a1,p1,e1,hs1,t1⟩:=pat_ty (ex.2 _ (List.getElem_mem hi))
   have hab:absPt (elsOf x)[i]=.mk k1 s1 n1 (absPtA a1) p1:=by rw[e1];rfl
   rw[e1] at hsz⊢
   have hc:=sizeOf_cell (cs:=[.int .i64 k1,.str s1,.int .i64 n1,a1,.int .i64 p1]) (c:=a1) (by simp)
   refine⟨inB hi,copyPats_ok k a1 g (by omega) t1 _ λl' hl' hn' ha'=>?_⟩
   have ta:HasTy TT 23 (slOf 5 l'):=slOf_ty undPats szPat (by rw[hn'];exact(t1.els undPats).1) hl'
   refine⟨slOf 5 l',ta,retOf_ret _ _,(ex.1.le (by simp;omega)).fits byPat,?_⟩
   rw[wrap_nat (by omega)]
   refine ih _ (by simp[h1]) (λy hy=>?_) (take_snoc hi h3 ?_)
   ·rcases List.mem_append.1 hy with hy|hy
    ·exact h2 y hy
    ·simp only[List.mem_singleton] at hy;subst hy;exact ty_pat hs1 ta
   ·rw[hab]
    show Pt.mk k1 s1 n1 (absPtA (slOf 5 l')) p1=_
    rw[absPtA_map,slOf_els,ha',←absPtA_map]
theorem copyExprs_ok:∀(k:Nat) (x:Dat) (g:Glob),SizeOf.sizeOf x<k→HasTy TT 22 x→∀(Qf:OGP),(∀l:List Dat,(∀y∈l,HasTy TT 25 y)→l.length=(elsOf x).length→l.map absEx=(elsOf x).map absEx→Qf (.val (retOf 7 l)) g)→EvF TT 12 [x] g Qf
 |0,x,g,hk,_=>by omega
 |k+1,x,g,hk,hx=>by
  intro Qf hQ
  have ex:=hx.els undExprs
  have exl:=ex.1.1
  refine w12 hx ?_
  refine loopUp (len:=(elsOf x).length) (λi=>∀l:List Dat,l.length=i→(∀y∈l,HasTy TT 25 y)→l.map absEx=((elsOf x).take i).map absEx→L12_3 x l (i:Int) g Qf) ?_ ?_ 0 (Nat.zero_le _) [] rfl (λy h=>by cases h) rfl
  ·intro l h1 h2 h3
   refine w12_3 ?_
   rw[Br_ge]
   rw[List.take_length] at h3
   exact hQ l h2 h1 h3
  ·intro i hi ih l h1 h2 h3
   refine w12_3 ?_
   rw[Br_lt hi,getE_nat hi]
   have hsz:=sizeOf_el hi
   obtain⟨k1,s1,r1,n1,a1,b1,p1,e1,hs1,hr1,t1,u1⟩:=expr_ty (ex.2 _ (List.getElem_mem hi))
   have hab:absEx (elsOf x)[i]=.mk k1 s1 r1 n1 (absExA a1) (absPtA b1) p1:=by rw[e1];rfl
   rw[e1] at hsz⊢
   have hc:=sizeOf_cell (cs:=[.int .i64 k1,.str s1,.str r1,.int .i64 n1,a1,b1,.int .i64 p1]) (c:=a1) (by simp)
   refine⟨inB hi,copyExprs_ok k a1 g (by omega) t1 _ λl' hl' hn' ha'=>?_⟩
   have ta:HasTy TT 22 (slOf 7 l'):=slOf_ty undExprs szExpr (by rw[hn'];exact(t1.els undExprs).1) hl'
   refine⟨slOf 7 l',ta,retOf_ret _ _,copyPats_ok _ b1 g (Nat.lt_succ_self _) u1 _ λm hm hmn hma=>?_⟩
   have tb:HasTy TT 23 (slOf 5 m):=slOf_ty undPats szPat (by rw[hmn];exact(u1.els undPats).1) hm
   refine⟨slOf 5 m,tb,retOf_ret _ _,(ex.1.le (by simp;omega)).fits byExpr,?_⟩
   rw[wrap_nat (by omega)]
   refine ih _ (by simp[h1]) (λy hy=>?_) (take_snoc hi h3 ?_)
   ·rcases List.mem_append.1 hy with hy|hy
    ·exact h2 y hy
    ·simp only[List.mem_singleton] at hy;subst hy;exact ty_expr hs1 hr1 ta tb
   ·rw[hab]
    show Ex'.mk k1 s1 r1 n1 (absExA (slOf 7 l')) (absPtA (slOf 5 m)) p1=_
    rw[absExA_map,slOf_els,ha',←absExA_map,absPtA_map,slOf_els,hma,←absPtA_map]
theorem copyDecls_ok(x:Dat)(g:Glob)(hx:HasTy TT 42 x)(Qf:OGP)(hQ:∀l:List Dat,(∀y∈l,HasTy TT 50 y)→l.length=(elsOf x).length→l.map absDc=(elsOf x).map absDc→Qf (.val (retOf 4 l)) g):EvF TT 41 [x] g Qf:=by
 have ex:=hx.els undDecls
 have exl:=ex.1.1
 refine w41 hx ?_
 refine loopUp (len:=(elsOf x).length) (λi=>∀l:List Dat,l.length=i→(∀y∈l,HasTy TT 50 y)→l.map absDc=((elsOf x).take i).map absDc→L41_3 x l (i:Int) g Qf) ?_ ?_ 0 (Nat.zero_le _) [] rfl (λy h=>by cases h) rfl
 ·intro l h1 h2 h3
  refine w41_3 ?_
  rw[Br_ge]
  rw[List.take_length] at h3
  exact hQ l h2 h1 h3
 ·intro i hi ih l h1 h2 h3
  refine w41_3 ?_
  rw[Br_lt hi,getE_nat hi]
  obtain⟨s1,a1,b1,p1,e1,hs1,ta1,tb1⟩:=decl_ty (ex.2 _ (List.getElem_mem hi))
  have hab:absDc (elsOf x)[i]=⟨s1,(elsOf a1).map strOf,(elsOf b1).map absCn,p1⟩:=by rw[e1];rfl
  rw[e1]
  have ea:=ta1.els undStrs
  have eb:=tb1.els undCons
  have ebl:=eb.1.1
  have tA:HasTy TT 47 (.sl 1 ([]++elsOf a1)):=.sl _ _ _ _ undStrs szStr (by simpa using ea.1) (by simpa using ea.2)
  refine⟨inB hi,(ea.1.le (by simp[fld,nth])).fits byStr,?_⟩
  refine loopUp (len:=(elsOf b1).length) (λj=>∀m:List Dat,m.length=j→(∀y∈m,HasTy TT 52 y)→m.map absCn=((elsOf b1).take j).map absCn→
   L41_9 x l (i:Int) m (j:Int) (.agg [.str s1,.sl 1 ([]++elsOf a1),b1,.int .i64 p1]) g Qf) ?_ ?_ 0 (Nat.zero_le _) [] rfl (λy h=>by cases h) rfl
  ·intro m q1 q2 q3
   refine w41_9 ?_
   rw[show(fld (Dat.agg [.str s1,.sl 1 ([]++elsOf a1),b1,.int .i64 p1]) 2)=b1 from rfl,Br_ge]
   refine⟨(ex.1.le (by simp;omega)).fits byDecl,?_⟩
   rw[wrap_nat (by omega)]
   rw[List.take_length] at q3
   have tB:HasTy TT 48 (slOf 2 m):=slOf_ty undCons szCon (by rw[q1];exact eb.1) q2
   refine ih _ (by simp[h1]) (λy hy=>?_) (take_snoc hi h3 ?_)
   ·rcases List.mem_append.1 hy with hy|hy
    ·exact h2 y hy
    ·simp only[List.mem_singleton] at hy;subst hy;exact ty_decl hs1 tA tB
   ·rw[hab]
    show(⟨s1,(elsOf (.sl 1 ([]++elsOf a1))).map strOf,(elsOf (slOf 2 m)).map absCn,p1⟩:Dc)=_
    rw[slOf_els,q3]
    rfl
  ·intro j hj ihj m q1 q2 q3
   refine w41_9 ?_
   rw[show(fld (Dat.agg [.str s1,.sl 1 ([]++elsOf a1),b1,.int .i64 p1]) 2)=b1 from rfl,Br_lt hj,getE_nat hj]
   obtain⟨t1,f1,d1,ht1,tf1⟩:=con_ty (eb.2 _ (List.getElem_mem hj))
   have hac:absCn (elsOf b1)[j]=⟨t1,absTyA f1⟩:=by rw[d1];rfl
   rw[d1]
   refine⟨inB hj,inB hj,copyTypes_ok _ f1 g (Nat.lt_succ_self _) tf1 _ λl' hl' hn' ha'=>?_⟩
   have tF:HasTy TT 26 (slOf 4 l'):=slOf_ty undTypes szType (by rw[hn'];exact(tf1.els undTypes).1) hl'
   refine⟨slOf 4 l',tF,retOf_ret _ _,(eb.1.le (by simp;omega)).fits byCon,?_⟩
   rw[wrap_nat (by omega)]
   refine ihj _ (by simp[q1]) (λy hy=>?_) (take_snoc hj q3 ?_)
   ·rcases List.mem_append.1 hy with hy|hy
    ·exact q2 y hy
    ·simp only[List.mem_singleton] at hy;subst hy;exact ty_con ht1 tF
   ·rw[hac]
    show(⟨t1,absTyA (slOf 4 l')⟩:Cn)=_
    rw[absTyA_map,slOf_els,ha',←absTyA_map]
theorem copy_ok(x:Dat)(g:Glob)(hx:HasTy TT 44 x)(Qf:OGP)(hQ:∀r,HasTy TT 44 r→absPg r=absPg x→Qf (.val (.d r)) g):EvF TT 20 [x] g Qf:=by
 refine w20 hx ?_
 obtain⟨d1,k1,s1,r1,n1,a1,b1,p1,rfl,hd1,he1⟩:=prog_ty hx
 refine copyDecls_ok d1 g hd1 _ λl hl hn ha=>?_
 have tD:HasTy TT 42 (slOf 4 l):=slOf_ty undDecls szDecl (by rw[hn];exact(hd1.els undDecls).1) hl
 refine⟨slOf 4 l,tD,retOf_ret _ _,copyExprs_ok _ _ g (Nat.lt_succ_self _) (one_expr he1) _ λm hm hmn hma=>?_⟩
 obtain⟨y,rfl⟩:∃y,m=[y]:=by
  match m,hmn with
  |[y],_=>exact⟨y,rfl⟩
 have hy:=hm y (by simp)
 have hya:absEx y=absEx (.agg [.int .i64 k1,.str s1,.str r1,.int .i64 n1,a1,b1,.int .i64 p1]):=by
  have:=hma
  simpa[elsOf,sub] using this
 refine⟨.sl 7 [y],one_expr hy,rfl,⟨Int.le_refl _,by simp[elsOf]⟩,?_⟩
 obtain⟨k2,s2,r2,n2,a2,b2,p2,rfl,hs2,hr2,t2,u2⟩:=expr_ty hy
 refine hQ _ (ty_prog tD (ty_expr hs2 hr2 t2 u2)) ?_
 show(⟨(elsOf (slOf 4 l)).map absDc,absEx (.agg [.int .i64 k2,.str s2,.str r2,.int .i64 n2,a2,b2,.int .i64 p2])⟩:Pg)=⟨(elsOf d1).map absDc,absEx (.agg [.int .i64 k1,.str s1,.str r1,.int .i64 n1,a1,b1,.int .i64 p1])⟩
 rw[slOf_els,ha,hya]
end Go.Proofs.YtmlghadphdpbjaaGreatDoor.Pa
namespace Go.Proofs.YtmlghadphdpbjaaGreatDoor.Pa
open Go Go.Proofs.YtmlghadphdpbjaaGreatDoor.Am
mutual
theorem eqTy_refl:∀x:Ty,eqTy x x=true
 |.mk k s n a=>by simp[eqTy,eqTys_refl a]
theorem eqTys_refl:∀x:List Ty,eqTys x x=true
 |[]=>rfl
 |x::xs=>by simp[eqTys,eqTy_refl x,eqTys_refl xs]
end
theorem eqBy_refl{α:Type}{f:α→α→Bool}(h:∀x,f x x=true):∀xs,eqBy f xs xs=true
 |[]=>rfl
 |x::xs=>by simp[eqBy,h x,eqBy_refl h xs]
theorem eqCn_refl(x:Cn):eqCn x x=true:=by simp[eqCn,eqTys_refl]
end Go.Proofs.YtmlghadphdpbjaaGreatDoor.Pa
