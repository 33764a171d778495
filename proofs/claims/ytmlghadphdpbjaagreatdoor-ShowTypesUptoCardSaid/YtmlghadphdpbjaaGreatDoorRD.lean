/- What functions of the program do, printed by wip/tools/sx/sx.py. The document's comparisons of trees. What functions of the program do, printed by wip/tools/sx/sx.py. The document's comparison of programs; the program's own. The program's own comparison of programs. What functions of the program do, printed by wip/tools/sx/sx.py. The document's copies; what is too large. Nothing of this layer is asked in this seat. The law ParseSame told: it answers true. -/
import Derived.Test.YtmlghadphdpbjaaGreatDoorRC
set_option linter.all false
set_option autoImplicit false
set_option maxRecDepth 100000
namespace Go.Proofs.YtmlghadphdpbjaaGreatDoor.Pa
open Go Go.Proofs.YtmlghadphdpbjaaGreatDoor.Am
def L39_4(x0:Dat)(x1:Dat)(n5:Int)(g:Glob)(Qf:OGP):Prop:=CutP TT Tryz.f39 [1,1,0,1,0] Qf (mkC TT 39 Tryz.f39 2 [(0,.v 26 (x0)),(1,.v 26 (x1)),(5,.v 3 (.int .i64 n5))] [] g)
def lo39:List CutI:=[⟨4,[(0,.keep),(1,.keep),(5,.keep)],[]⟩]
theorem w39{x0:Dat}{x1:Dat}{g:Glob}{Qf:OGP}(h0:HasTy TT 26 x0)(h1:HasTy TT 26 x1)
 (h:Br ((↑(elsOf x0).length:Int)!=(↑(elsOf x1).length:Int)) (Qf (.val (.d (.bool false))) g) (L39_4 x0 x1 0 g Qf)):
 EvF TT 39 [x0,x1] g Qf:=
 sx_fun (rk:=rk) (fn:=Tryz.f39) (loops:=lo39) (joins:=[]) (n:=100000) (args:=[(26,x0),(26,x1)]) rfl rfl rfl rfl ⟨h0,h1,trivial⟩ (by kernel_rfl) h
theorem w39_4{x0:Dat}{x1:Dat}{n5:Int}{g:Glob}{Qf:OGP}
 (h:Br (decide (n5<(↑(elsOf x0).length:Int))) (InB n5 (elsOf x0).length∧InB n5 (elsOf x1).length∧Br (intOf (fld (getE (elsOf x0) n5) 0)!=intOf (fld (getE (elsOf x1) n5) 0)) (Qf (.val (.d (.bool false))) g) (InB n5 (elsOf x0).length∧InB n5 (elsOf x1).length∧Br (!strOf (fld (getE (elsOf x0) n5) 1)==strOf (fld (getE (elsOf x1) n5) 1)) (Qf (.val (.d (.bool false))) g) (InB n5 (elsOf x0).length∧InB n5 (elsOf x1).length∧Br (intOf (fld (getE (elsOf x0) n5) 2)!=intOf (fld (getE (elsOf x1) n5) 2)) (Qf (.val (.d (.bool false))) g) (InB n5 (elsOf x0).length∧InB n5 (elsOf x1).length∧EvF TT 39 [fld (getE (elsOf x0) n5) 3,fld (getE (elsOf x1) n5) 3] g (KQ Qf λv g'=>∃b,v=.d (.bool b)∧Br (!b) (Qf (.val (.d (.bool false))) g') (L39_4 x0 x1 (IntKind.i64.wrap (n5+1)) g' Qf)))))) (Qf (.val (.d (.bool true))) g)):
 L39_4 x0 x1 n5 g Qf:=sx_cut (rk:=rk) (loops:=lo39) (joins:=[]) (n:=100000) (by kernel_rfl) h
end Go.Proofs.YtmlghadphdpbjaaGreatDoor.Pa
namespace Go.Proofs.YtmlghadphdpbjaaGreatDoor.Pa
open Go Go.Proofs.YtmlghadphdpbjaaGreatDoor.Am
theorem ne_false{n m:Nat}(h:n=m):((n:Int)!=(m:Int))=false:=by simp[h]
theorem ne_true{n m:Nat}(h:n≠m):((n:Int)!=(m:Int))=true:=by simp;omega
theorem sameTypes_ok:∀(k:Nat) (x y:Dat) (g:Glob),SizeOf.sizeOf x<k→HasTy TT 26 x→HasTy TT 26 y→∀(Qf:OGP),Qf (.val (.d (.bool (eqTys (absTyA x) (absTyA y))))) g→EvF TT 39 [x,y] g Qf
 |0,x,y,g,hk,_,_=>by omega
 |k+1,x,y,g,hk,hx,hy=>by
  have ex:=hx.els undTypes
  have exl:=ex.1.1
  have ey:=hy.els undTypes
  rw[eqTys_by,absTyA_map,absTyA_map,eqBy_map]
  intro Qf hQ
  refine w39 hx hy ?_
  by_cases hl:(elsOf x).length=(elsOf y).length
  ·rw[ne_false hl,Br_false]
   generalize hR:eqBy (λa b=>eqTy (absTy a) (absTy b)) (elsOf x) (elsOf y)=R at hQ
   refine loopUp (len:=(elsOf x).length) (λi=>eqBy (λa b=>eqTy (absTy a) (absTy b)) ((elsOf x).drop i) ((elsOf y).drop i)=R→L39_4 x y (i:Int) g Qf) ?_ ?_ 0 (Nat.zero_le _) hR
   ·intro h
    rw[List.drop_length,hl,List.drop_length] at h
    refine w39_4 ?_
    rw[Br_ge]
    subst h
    exact hQ
   ·intro i hi ih h
    have hj:i<(elsOf y).length:=by omega
    refine w39_4 ?_
    rw[Br_lt hi,getE_nat hi,getE_nat hj]
    rw[eqBy_drop hi hj] at h
    have hsz:=sizeOf_el hi
    obtain⟨k1,s1,n1,a1,e1,_,t1⟩:=type_ty (ex.2 _ (List.getElem_mem hi))
    obtain⟨k2,s2,n2,a2,e2,_,t2⟩:=type_ty (ey.2 _ (List.getElem_mem hj))
    rw[e1] at hsz h⊢
    rw[e2] at h⊢
    have hc:SizeOf.sizeOf a1<k:=by have:=sizeOf_cell (cs:=[.int .i64 k1,.str s1,.int .i64 n1,a1]) (c:=a1) (by simp);omega
    simp only[absTy,eqTy] at h
    refine⟨inB hi,inB hj,Br_iff.2 ⟨λq=>?_,λq=>⟨inB hi,inB hj,Br_iff.2 ⟨λq'=>?_,λq'=>⟨inB hi,inB hj,Br_iff.2 ⟨λq''=>?_,λq''=>⟨inB hi,inB hj,?_⟩⟩⟩⟩⟩⟩⟩
    all_goals simp[fld,nth,intOf,strOf] at q
    ·exact(by rw[←h];simp[q]:R=false)▸hQ
    all_goals simp[fld,nth,intOf,strOf] at q'
    ·exact(by rw[←h];simp[q']:R=false)▸hQ
    all_goals simp[fld,nth,intOf,strOf] at q''
    ·exact(by rw[←h];simp[q'']:R=false)▸hQ
    subst q q' q''
    simp only[beq_self_eq_true,Bool.true_and] at h
    refine sameTypes_ok k a1 a2 g hc t1 t2 _ ⟨_,rfl,Br_iff.2 ⟨λq=>?_,λq=>?_⟩⟩
    ·exact(by rw[←h];simp at q;simp[q]:R=false)▸hQ
    ·rw[wrap_nat (by omega)]
     refine ih ?_
     rw[←h]
     simp at q
     simp[q]
  ·rw[ne_true hl,Br_true]
   rw[eqBy_len hl] at hQ
   exact hQ
end Go.Proofs.YtmlghadphdpbjaaGreatDoor.Pa
namespace Go.Proofs.YtmlghadphdpbjaaGreatDoor.Pa
open Go Go.Proofs.YtmlghadphdpbjaaGreatDoor.Am
end Go.Proofs.YtmlghadphdpbjaaGreatDoor.Pa
namespace Go.Proofs.YtmlghadphdpbjaaGreatDoor.Pa
open Go Go.Proofs.YtmlghadphdpbjaaGreatDoor.Am
theorem len_le{x:Dat}{t u:TypeId}(hu:TT.und t=some (.slice u))(hx:HasTy TT t x):(elsOf x).length≤2^40:=(hx.els hu).1.1
end Go.Proofs.YtmlghadphdpbjaaGreatDoor.Pa
namespace Go.Proofs.YtmlghadphdpbjaaGreatDoor.Pa
open Go Go.Proofs.YtmlghadphdpbjaaGreatDoor.Am
end Go.Proofs.YtmlghadphdpbjaaGreatDoor.Pa
namespace Go.Proofs.YtmlghadphdpbjaaGreatDoor.Pa
open Go Go.Proofs.YtmlghadphdpbjaaGreatDoor.Am
def L34_3(x0:Dat)(l3:List Dat)(n4:Int)(g:Glob)(Qf:OGP):Prop:=CutP TT Tryz.f34 [1,1,0,1,0] Qf (mkC TT 34 Tryz.f34 1 [(0,.v 26 (x0)),(3,.acc [(23,0)] 26 4 l3),(4,.v 3 (.int .i64 n4))] [] g)
def lo34:List CutI:=[⟨3,[(0,.keep),(3,.acc [23]),(4,.keep)],[]⟩]
theorem w34{x0:Dat}{g:Glob}{Qf:OGP}(h0:HasTy TT 26 x0)
 (h:L34_3 x0 [] 0 g Qf):
 EvF TT 34 [x0] g Qf:=
 sx_fun (rk:=rk) (fn:=Tryz.f34) (loops:=lo34) (joins:=[]) (n:=100000) (args:=[(26,x0)]) rfl rfl rfl rfl ⟨h0,trivial⟩ (by kernel_rfl) h
theorem w34_3{x0:Dat}{l3:List Dat}{n4:Int}{g:Glob}{Qf:OGP}
 (h:Br (decide (n4<(↑(elsOf x0).length:Int))) (InB n4 (elsOf x0).length∧EvF TT 34 [fld (getE (elsOf x0) n4) 3] g (KQ Qf λv g'=>∃x,HasTy TT 26 x∧RetV v x∧Fits (l3.length+[Dat.agg [.int .i64 (intOf (fld (getE (elsOf x0) n4) 0)),.str (strOf (fld (getE (elsOf x0) n4) 1)),.int .i64 (intOf (fld (getE (elsOf x0) n4) 2)),x]].length) 56∧L34_3 x0 (l3++[Dat.agg [.int .i64 (intOf (fld (getE (elsOf x0) n4) 0)),.str (strOf (fld (getE (elsOf x0) n4) 1)),.int .i64 (intOf (fld (getE (elsOf x0) n4) 2)),x]]) (IntKind.i64.wrap (n4+1)) g' Qf)) (Qf (.val (retOf 4 l3)) g)):
 L34_3 x0 l3 n4 g Qf:=sx_cut (rk:=rk) (loops:=lo34) (joins:=[]) (n:=100000) (by kernel_rfl) h
def L25_5(n1:Int)(n2:Int)(n7:Int)(y3:Dat)(g:Glob)(Qf:OGP):Prop:=CutP TT Tryz.f25 [1,1,1,0,1,0] Qf (mkC TT 25 Tryz.f25 3 [(1,.v 3 (.int .i64 n1)),(2,.v 3 (.int .i64 n2)),(3,.loc 3 0 0),(7,.v 3 (.int .i64 n7))] [(3,.whole 28 y3)] g)
def lo25:List CutI:=[⟨5,[(1,.keep),(2,.keep),(3,.keep),(7,.keep)],[(3,.whole 28)]⟩]
theorem w25{x0:Dat}{n1:Int}{n2:Int}{g:Glob}{Qf:OGP}(h0:HasTy TT 28 x0)
 (h:NeZ 10∧Br (decide (20000<IntKind.i64.wrap (n2+IntKind.i64.wrap (1+IntKind.i64.wrap ((↑(elsOf (fld x0 3)).length:Int).tdiv 10))))) (Qf (.val (.d (.int .i64 (-1)))) g) (Br (decide (600<n1)) (Qf (.val (.d (.int .i64 (-1)))) g) (L25_5 n1 (IntKind.i64.wrap (n2+IntKind.i64.wrap (1+IntKind.i64.wrap ((↑(elsOf (fld x0 3)).length:Int).tdiv 10)))) 0 x0 g Qf))):
 EvF TT 25 [x0,.int .i64 n1,.int .i64 n2] g Qf:=
 sx_fun (rk:=rk) (fn:=Tryz.f25) (loops:=lo25) (joins:=[]) (n:=100000) (args:=[(28,x0),(3,.int .i64 n1),(3,.int .i64 n2)]) rfl rfl rfl rfl ⟨h0,tyInt rfl,tyInt rfl,trivial⟩ (by kernel_rfl) h
theorem w25_5{n1:Int}{n2:Int}{n7:Int}{y3:Dat}{g:Glob}{Qf:OGP}
 (h:Br (decide (n7<(↑(elsOf (fld y3 3)).length:Int))) (Br (decide (0≤n2)) (InB n7 (elsOf (fld y3 3)).length∧EvF TT 25 [getE (elsOf (fld y3 3)) n7,.int .i64 (IntKind.i64.wrap (n1+1)),.int .i64 n2] g (KQ Qf λv g'=>∃n,v=.d (.int .i64 n)∧L25_5 n1 n (IntKind.i64.wrap (n7+1)) y3 g' Qf)) (Qf (.val (.d (.int .i64 n2))) g)) (Qf (.val (.d (.int .i64 n2))) g)):
 L25_5 n1 n2 n7 y3 g Qf:=sx_cut (rk:=rk) (loops:=lo25) (joins:=[]) (n:=100000) (by kernel_rfl) h
end Go.Proofs.YtmlghadphdpbjaaGreatDoor.Pa
namespace Go.Proofs.YtmlghadphdpbjaaGreatDoor.Pa
open Go Go.Proofs.YtmlghadphdpbjaaGreatDoor.Am
theorem retOf_ret(m:Nat)(l:List Dat):RetV (retOf m l) (slOf m l):=by cases l<;>rfl
theorem byType:TT.bytes 28=some 56:=by kernel_rfl
theorem byCon:TT.bytes 52=some 40:=by kernel_rfl
theorem byDecl:TT.bytes 50=some 72:=by kernel_rfl
theorem byStr:TT.bytes 9=some 16:=by kernel_rfl
theorem szType:TT.size 28=some 4:=by kernel_rfl
theorem szCon:TT.size 52=some 2:=by kernel_rfl
theorem szDecl:TT.size 50=some 4:=by kernel_rfl
theorem szStr:TT.size 9=some 1:=by kernel_rfl
theorem take_snoc{α β:Type}{f:α→β}{xs:List α}{ys:List α}{i:Nat}{y:α}(hi:i<xs.length)(h:ys.map f=(xs.take i).map f)(hy:f y=f xs[i]):(ys++[y]).map f=(xs.take (i+1)).map f:=by
 rw[List.map_append,h,List.take_succ_eq_append_getElem hi,List.map_append,List.map_singleton,List.map_singleton,hy]
theorem copyTypes_ok:∀(k:Nat) (x:Dat) (g:Glob),SizeOf.sizeOf x<k→HasTy TT 26 x→∀(Qf:OGP),(∀l:List Dat,(∀y∈l,HasTy TT 28 y)→l.length=(elsOf x).length→l.map absTy=(elsOf x).map absTy→Qf (.val (retOf 4 l)) g)→EvF TT 34 [x] g Qf
 |0,x,g,hk,_=>by omega
 |k+1,x,g,hk,hx=>by
  intro Qf hQ
  have ex:=hx.els undTypes
  have exl:=ex.1.1
  refine w34 hx ?_
  refine loopUp (len:=(elsOf x).length) (λi=>∀l:List Dat,l.length=i→(∀y∈l,HasTy TT 28 y)→l.map absTy=((elsOf x).take i).map absTy→L34_3 x l (i:Int) g Qf) ?_ ?_ 0 (Nat.zero_le _) [] rfl (λy h=>by cases h) rfl
  ·intro l h1 h2 h3
   refine w34_3 ?_
   rw[Br_ge]
   rw[List.take_length] at h3
   exact hQ l h2 h1 h3
  ·intro i hi ih l h1 h2 h3
   refine w34_3 ?_
   rw[Br_lt hi,getE_nat hi]
   have hsz:=sizeOf_el hi
   obtain⟨k1,s1,n1,a1,e1,hs1,t1⟩:=type_ty (ex.2 _ (List.getElem_mem hi))
   have hab:absTy (elsOf x)[i]=.mk k1 s1 n1 (absTyA a1):=by rw[e1];rfl
   rw[e1] at hsz⊢
   have hc:=sizeOf_cell (cs:=[.int .i64 k1,.str s1,.int .i64 n1,a1]) (c:=a1) (by simp)
   refine⟨inB hi,copyTypes_ok k a1 g (by omega) t1 _ λl' hl' hn' ha'=>?_⟩
   have ta:HasTy TT 26 (slOf 4 l'):=slOf_ty undTypes szType (by rw[hn'];exact(t1.els undTypes).1) hl'
   refine⟨slOf 4 l',ta,retOf_ret _ _,(ex.1.le (by simp;omega)).fits byType,?_⟩
   rw[wrap_nat (by omega)]
   refine ih _ (by simp[h1]) (λy hy=>?_) (take_snoc hi h3 ?_)
   ·rcases List.mem_append.1 hy with hy|hy
    ·exact h2 y hy
    ·simp only[List.mem_singleton] at hy;subst hy;exact ty_type hs1 ta
   ·rw[hab]
    show Ty.mk k1 s1 n1 (absTyA (slOf 4 l'))=_
    rw[absTyA_map,slOf_els,ha',←absTyA_map]
end Go.Proofs.YtmlghadphdpbjaaGreatDoor.Pa
namespace Go.Proofs.YtmlghadphdpbjaaGreatDoor.Pa
open Go Go.Proofs.YtmlghadphdpbjaaGreatDoor.Am
mutual
theorem eqTy_refl:∀x:Ty,eqTy x x=true
 |.mk k s n a=>by simp[eqTy,eqTys_refl a]
theorem eqTys_refl:∀x:List Ty,eqTys x x=true
 |[]=>rfl
 |x::xs=>by simp[eqTys,eqTy_refl x,eqTys_refl xs]
end
end Go.Proofs.YtmlghadphdpbjaaGreatDoor.Pa
