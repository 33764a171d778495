/- What functions of the program do, printed by wip/tools/sx/sx.py. Useful: values, and whether a pattern meets one. -/
import Derived.Test.YtiheejdkkjfenaaGreatDoorSA
set_option linter.all false
set_option autoImplicit false
set_option maxRecDepth 100000
namespace Go.Proofs.YtiheejdkkjfenaaGreatDoor.Pa
open Go Go.Proofs.YtiheejdkkjfenaaGreatDoor.Am
def L14_5(x1:Dat)(n5:Int)(n6:Int)(g:Glob)(Qf:OGP):Prop:=CutP TT Tryz.f14 [1,1,1,0,1,0] Qf (mkC TT 14 Tryz.f14 2 [(1,.v 24 (x1)),(5,.v 3 (.int .i64 n5)),(6,.v 3 (.int .i64 n6))] [] g)
def lo14:List CutI:=[⟨5,[(1,.keep),(5,.keep),(6,.keep)],[]⟩]
theorem w14{x0:Dat}{x1:Dat}{g:Glob}{Qf:OGP}(h0:HasTy TT 22 x0)(h1:HasTy TT 24 x1)
 (h:EvF TT 26 [x0] g (KQ Qf λv g'=>∃b,v=.d (.bool b)∧Br b (Qf (.val (.d (.bool true))) g') (Br (decide (60<(↑(elsOf x1).length:Int))) (Qf (.val (.d (.bool true))) g') (L14_5 x1 0 0 g' Qf)))):
 EvF TT 14 [x0,x1] g Qf:=
 sx_fun (rk:=rk) (fn:=Tryz.f14) (loops:=lo14) (joins:=[]) (n:=100000) (args:=[(22,x0),(24,x1)]) rfl rfl rfl rfl ⟨h0,h1,trivial⟩ (by kernel_rfl) h
theorem w14_5{x1:Dat}{n5:Int}{n6:Int}{g:Glob}{Qf:OGP}
 (h:Br (decide (n6<(↑(elsOf x1).length:Int))) (InB n6 (elsOf x1).length∧EvF TT 41 [getE (elsOf x1) n6] g (KQ Qf λv g'=>∃b,v=.d (.bool b)∧Br b (Qf (.val (.d (.bool true))) g') (InB n6 (elsOf x1).length∧EvF TT 8 [.agg [.nil,.int .i64 (intOf (.int .i64 0)),.str [],.str [],.int .i64 (intOf (.int .i64 0)),.nil,.sl 5 [getE (elsOf x1) n6],.int .i64 (intOf (.int .i64 0))]] g' (KQ Qf λv g'=>∃n,v=.d (.int .i64 n)∧Br (decide (600<IntKind.i64.wrap (n5+n))) (Qf (.val (.d (.bool true))) g') (L14_5 x1 (IntKind.i64.wrap (n5+n)) (IntKind.i64.wrap (n6+1)) g' Qf))))) (Qf (.val (.d (.bool false))) g)):
 L14_5 x1 n5 n6 g Qf:=sx_cut (rk:=rk) (loops:=lo14) (joins:=[]) (n:=100000) (by kernel_rfl) h
def lo41:List CutI:=[]
theorem w41{x0:Dat}{g:Glob}{Qf:OGP}(h0:HasTy TT 52 x0)
 (h:EvF TT 71 [x0,.int .i64 0,.int .i64 0] g (KQ Qf λv g'=>∃n,v=.d (.int .i64 n)∧Qf (.val (.d (.bool (decide (n<0))))) g')):
 EvF TT 41 [x0] g Qf:=
 sx_fun (rk:=rk) (fn:=Tryz.f41) (loops:=lo41) (joins:=[]) (n:=100000) (args:=[(52,x0)]) rfl rfl rfl rfl ⟨h0,trivial⟩ (by kernel_rfl) h
def lo5:List CutI:=[]
theorem w5{x0:Dat}{x1:Dat}{x2:Dat}{g:Glob}{Qf:OGP}(h0:HasTy TT 22 x0)(h1:HasTy TT 52 x1)(h2:HasTy TT 55 x2)
 (h:EvF TT 14 [x0,.sl 5 [x1]] g (KQ Qf λv g'=>∃b,v=.d (.bool b)∧Br b (EvF TT 9 [] g' (KQ Qf λv g'=>∃b,v=.d (.bool b)∧Qf (.val (.d (.bool b))) g')) (EvF TT 22 [x2] g' (KQ Qf λv g'=>∃b,v=.d (.bool b)∧Br b (EvF TT 9 [] g' (KQ Qf λv g'=>∃b,v=.d (.bool b)∧Qf (.val (.d (.bool b))) g')) (EvF TT 15 [.agg [x0,.int .i64 0,.str [],.str [],.int .i64 0,.nil,.nil,.int .i64 0]] g' (KQ Qf λv g'=>∃x,HasTy TT 22 x∧RetV v x∧EvF TT 17 [x] g' (KQ Qf λv g'=>∃x_1,HasTy TT 22 x_1∧RetV v x_1∧EvF TT 18 [.sl 5 [x1]] g' (KQ Qf λv g'=>∃x_2,HasTy TT 24 x_2∧RetV v x_2∧InB 0 (elsOf x_2).length∧EvF TT 24 [x2] g' (KQ Qf λv g'=>∃x_3,HasTy TT 55 x_3∧v=.d x_3∧EvF TT 23 [x_1,getE (elsOf x_2) 0,x_3] g' (KQ Qf λv g'=>∃b,v=.d (.bool b)∧EvF TT 25 [x,x1,x2] g' (KQ Qf λv g'=>∃b_1,v=.d (.bool b_1)∧Br (b==b_1) (EvF TT 9 [] g' (KQ Qf λv g'=>∃b,v=.d (.bool b)∧Qf (.val (.d (.bool b))) g')) (Qf (.val (.d (.bool false))) g')))))))))))):
 EvF TT 5 [x0,x1,x2] g Qf:=
 sx_fun (rk:=rk) (fn:=Tryz.f5) (loops:=lo5) (joins:=[]) (n:=100000) (args:=[(22,x0),(52,x1),(55,x2)]) rfl rfl rfl rfl ⟨h0,h1,h2,trivial⟩ (by kernel_rfl) h
end Go.Proofs.YtiheejdkkjfenaaGreatDoor.Pa
namespace Go.Proofs.YtiheejdkkjfenaaGreatDoor.Pa
open Go Go.Proofs.YtiheejdkkjfenaaGreatDoor.Am
inductive Vl where
 |mk (i:Bool) (n:Int) (a:List Vl)
instance:Inhabited Vl:=⟨.mk false 0 []⟩
theorem largePat_ok(x:Dat)(g:Glob)(hx:HasTy TT 52 x)(Qf:OGP)(hQ:∀b,Qf (.val (.d (.bool b))) g):EvF TT 41 [x] g Qf:=
 w41 hx (weighPat_ok _ x g _ _ (Nat.lt_succ_self _) hx _ λn=>⟨_,rfl,hQ _⟩)
theorem ty_nilExprs:HasTy TT 23 .nil:=.nil _ (by rw[undExprs];rfl)
theorem ty_nilDecls:HasTy TT 22 .nil:=.nil _ (by rw[undDecls];rfl)
theorem ty_nilPats:HasTy TT 24 .nil:=.nil _ (by rw[undPats];rfl)
theorem large17_ok(l x:Dat)(g:Glob)(hl:HasTy TT 22 l)(hx:HasTy TT 24 x)(Qf:OGP)(hT:Qf (.val (.d (.bool true))) g)(hF:(∀d∈elsOf l,SmDc d)→(elsOf x).length≤60→Qf (.val (.d (.bool false))) g):EvF TT 14 [l,x] g Qf:=by
 refine w14 hl hx ?_
 refine largeDecls_all l g hl _ ⟨_,rfl,hT⟩ λhs=>⟨_,rfl,?_⟩
 rw[Br_false]
 refine Br_iff.2 ⟨λ_=>hT,λq=>?_⟩
 have hn:(elsOf x).length≤60:=by
  have:=of_decide_eq_false q
  omega
 have ex:=hx.els undPats
 refine loopUp (len:=(elsOf x).length) (λi=>∀n:Int,L14_5 x n (i:Int) g Qf) ?_ ?_ 0 (Nat.zero_le _) _
 ·intro n
  refine w14_5 ?_
  rw[Br_ge]
  exact hF hs hn
 ·intro i hi ih n
  refine w14_5 ?_
  rw[Br_lt hi,getE_nat hi]
  have hxi:=ex.2 _ (List.getElem_mem hi)
  refine⟨inB hi,largePat_ok _ g hxi _ λb=>⟨_,rfl,Br_iff.2 ⟨λ_=>hT,λ_=>⟨inB hi,?_⟩⟩⟩⟩
  have hp:HasTy TT 24 (.sl 5 [(elsOf x)[i]]):=sl_ty (xs:=[(elsOf x)[i]]) undPats szPat (fitOf byPat (by omega) (by simp)) (by simpa using hxi)
  refine refSize_ok _ g (ty_prog ty_nilDecls (ty_expr (by simp) (by simp) ty_nilExprs hp)) _ ⟨_,rfl,Br_iff.2 ⟨λ_=>hT,λ_=>?_⟩⟩
  rw[wrap_nat (by omega)]
  exact ih _
end Go.Proofs.YtiheejdkkjfenaaGreatDoor.Pa
