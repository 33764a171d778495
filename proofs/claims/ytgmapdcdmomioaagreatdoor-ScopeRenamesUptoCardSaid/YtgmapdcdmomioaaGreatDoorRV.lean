/- What functions of the program do, printed by wip/tools/sx/sx.py. All types that there are, and where a constructor is: the law ScopeFinds answers true. -/
import Derived.Test.YtgmapdcdmomioaaGreatDoorRI
set_option linter.all false
set_option autoImplicit false
set_option maxRecDepth 100000
namespace Go.Proofs.YtgmapdcdmomioaaGreatDoor.Pa
open Go Go.Proofs.YtgmapdcdmomioaaGreatDoor.Am
def L158_3(l3:List Dat)(x6:Dat)(n7:Int)(n8:Int)(g:Glob)(Qf:OGP):Prop:=CutP TT Tryz.f158 [1,1,0,1,0] Qf (mkC TT 158 Tryz.f158 1 [(3,.acc [(19,0)] 89 4 l3),(6,.v 89 (x6)),(7,.v 3 (.int .i64 n7)),(8,.v 3 (.int .i64 n8))] [] g)
def lo158:List CutI:=[⟨3,[(3,.acc [19]),(6,.keep),(7,.keep),(8,.keep)],[]⟩]
theorem w158{x0:Dat}{g:Glob}{Qf:OGP}(h0:HasTy TT 89 x0)
 (h:L158_3 [] x0 (↑(elsOf x0).length:Int) 0 g Qf):
 EvF TT 158 [x0] g Qf:=
 sx_fun (rk:=rk) (fn:=Tryz.f158) (loops:=lo158) (joins:=[]) (n:=100000) (args:=[(89,x0)]) rfl rfl rfl rfl ⟨h0,trivial⟩ (by kernel_rfl) h
theorem w158_3{l3:List Dat}{x6:Dat}{n7:Int}{n8:Int}{g:Glob}{Qf:OGP}
 (h:Br (decide (n8<n7)) (InB n8 (elsOf x6).length∧EvF TT 158 [fld (getE (elsOf x6) n8) 3] g (KQ Qf λv g'=>∃x,HasTy TT 89 x∧RetV v x∧Fits (l3.length+[Dat.agg [.int .i64 (intOf (fld (getE (elsOf x6) n8) 0)),.str (strOf (fld (getE (elsOf x6) n8) 1)),.int .i64 (intOf (fld (getE (elsOf x6) n8) 2)),x]].length) 56∧L158_3 (l3++[Dat.agg [.int .i64 (intOf (fld (getE (elsOf x6) n8) 0)),.str (strOf (fld (getE (elsOf x6) n8) 1)),.int .i64 (intOf (fld (getE (elsOf x6) n8) 2)),x]]) x6 n7 (IntKind.i64.wrap (n8+1)) g' Qf)) (Qf (.val (retOf 4 l3)) g)):
 L158_3 l3 x6 n7 n8 g Qf:=sx_cut (rk:=rk) (loops:=lo158) (joins:=[]) (n:=100000) (by kernel_rfl) h
def L85_4(l3:List Dat)(x11:Dat)(n12:Int)(n13:Int)(y2:Dat)(y1:Dat)(g:Glob)(Qf:OGP):Prop:=CutP TT Tryz.f85 [1,1,1,0,1,0] Qf (mkC TT 85 Tryz.f85 1 [(1,.loc 1 0 0),(2,.loc 2 0 0),(3,.acc [(25,0)] 74 2 l3),(11,.v 74 (x11)),(12,.v 3 (.int .i64 n12)),(13,.v 3 (.int .i64 n13))] [(2,.whole 76 y2),(1,.whole 76 y1)] g)
def lo85:List CutI:=[⟨4,[(1,.keep),(2,.keep),(3,.acc [25]),(11,.read),(12,.keep),(13,.keep)],[(2,.whole 76),(1,.whole 76)]⟩]
theorem w85{x0:Dat}{g:Glob}{Qf:OGP}(h0:HasTy TT 76 x0)
 (h:EvF TT 157 [fld x0 1] g (KQ Qf λv g'=>∃x,HasTy TT 61 x∧RetV v x∧L85_4 [] (fld x0 2) (↑(elsOf (fld x0 2)).length:Int) 0 (.agg [.str [],.nil,.nil,.int .i64 0]) (.agg [.str (strOf (fld x0 0)),x,fld x0 2,.int .i64 (intOf (fld x0 3))]) g' Qf)):
 EvF TT 85 [x0] g Qf:=
 sx_fun (rk:=rk) (fn:=Tryz.f85) (loops:=lo85) (joins:=[]) (n:=100000) (args:=[(76,x0)]) rfl rfl rfl rfl ⟨h0,trivial⟩ (by kernel_rfl) h
theorem w85_4{l3:List Dat}{x11:Dat}{n12:Int}{n13:Int}{y2:Dat}{y1:Dat}{g:Glob}{Qf:OGP}
 (h:Br (decide (n13<n12)) (InB n13 (elsOf x11).length∧EvF TT 158 [fld (getE (elsOf x11) n13) 1] g (KQ Qf λv g'=>∃x,HasTy TT 89 x∧RetV v x∧Fits (l3.length+[Dat.agg [.str (strOf (fld (getE (elsOf x11) n13) 0)),x]].length) 40∧L85_4 (l3++[Dat.agg [.str (strOf (fld (getE (elsOf x11) n13) 0)),x]]) x11 n12 (IntKind.i64.wrap (n13+1)) y2 y1 g' Qf)) (Qf (.val (.d (.agg [.str (strOf (.str (strOf (fld y1 0)))),fld (.agg [.str (strOf (fld y1 0)),fld y1 1,slOf 2 l3,.int .i64 (intOf (fld y1 3))]) 1,fld (.agg [.str (strOf (fld y1 0)),fld y1 1,slOf 2 l3,.int .i64 (intOf (fld y1 3))]) 2,.int .i64 (intOf (.int .i64 (intOf (fld y1 3))))]))) g)):
 L85_4 l3 x11 n12 n13 y2 y1 g Qf:=sx_cut (rk:=rk) (loops:=lo85) (joins:=[]) (n:=100000) (by kernel_rfl) h
def L31_3(l3:List Dat)(x25:Dat)(n26:Int)(n27:Int)(g:Glob)(Qf:OGP):Prop:=CutP TT Tryz.f31 [1,1,0,1,0] Qf (mkC TT 31 Tryz.f31 1 [(3,.own 23 0 23 4 l3),(25,.v 23 (x25)),(26,.v 3 (.int .i64 n26)),(27,.v 3 (.int .i64 n27))] [] g)
def lo31:List CutI:=[⟨3,[(3,.keep),(25,.keep),(26,.keep),(27,.keep)],[]⟩]
theorem w31{x0:Dat}{g:Glob}{Qf:OGP}(h0:HasTy TT 29 x0)
 (h:L31_3 [.agg [.str [117,110,105,116],.nil,.sl 2 [.agg [.str [85,110,105,116],.nil]],.int .i64 0],.agg [.str [98,111,111,108],.nil,.sl 2 [.agg [.str [70,97,108,115,101],.nil],.agg [.str [84,114,117,101],.nil]],.int .i64 0],.agg [.str [108,105,115,116],.sl 1 [.str [97]],.sl 2 [.agg [.str [78,105,108],.nil],.agg [.str [67,111,110,115],.sl 4 [.agg [.int .i64 2,.str [97],.int .i64 0,.nil],.agg [.int .i64 4,.str [108,105,115,116],.int .i64 0,.sl 4 [.agg [.int .i64 2,.str [97],.int .i64 0,.nil]]]]]],.int .i64 0]] (fld x0 0) (↑(elsOf (fld x0 0)).length:Int) 0 g Qf):
 EvF TT 31 [x0] g Qf:=
 sx_fun (rk:=rk) (fn:=Tryz.f31) (loops:=lo31) (joins:=[]) (n:=100000) (args:=[(29,x0)]) rfl rfl rfl rfl ⟨h0,trivial⟩ (by kernel_rfl) h
theorem w31_3{l3:List Dat}{x25:Dat}{n26:Int}{n27:Int}{g:Glob}{Qf:OGP}
 (h:Br (decide (n27<n26)) (InB n27 (elsOf x25).length∧EvF TT 85 [getE (elsOf x25) n27] g (KQ Qf λv g'=>∃x,HasTy TT 76 x∧v=.d x∧Fits (l3.length+[x].length) 72∧L31_3 (l3++[x]) x25 n26 (IntKind.i64.wrap (n27+1)) g' Qf)) (Qf (.val (.uq 4 l3)) g)):
 L31_3 l3 x25 n26 n27 g Qf:=sx_cut (rk:=rk) (loops:=lo31) (joins:=[]) (n:=100000) (by kernel_rfl) h
def L34_2(s1:List UInt8)(x11:Dat)(n12:Int)(n13:Int)(g:Glob)(Qf:OGP):Prop:=CutP TT Tryz.f34 [1,0,1,0] Qf (mkC TT 34 Tryz.f34 2 [(1,.v 9 (.str s1)),(11,.v 23 (x11)),(12,.v 3 (.int .i64 n12)),(13,.v 3 (.int .i64 n13))] [] g)
def L34_5(s1:List UInt8)(n7:Int)(x11:Dat)(n12:Int)(n13:Int)(x19:Dat)(n20:Int)(n21:Int)(g:Glob)(Qf:OGP):Prop:=CutP TT Tryz.f34 [1,0,1,0,0,1,1,0,0,1,1,0] Qf (mkC TT 34 Tryz.f34 2 [(1,.v 9 (.str s1)),(7,.v 3 (.int .i64 n7)),(11,.v 23 (x11)),(12,.v 3 (.int .i64 n12)),(13,.v 3 (.int .i64 n13)),(19,.v 74 (x19)),(20,.v 3 (.int .i64 n20)),(21,.v 3 (.int .i64 n21))] [] g)
def lo34:List CutI:=[⟨2,[(1,.keep),(11,.keep),(12,.keep),(13,.keep)],[]⟩,⟨5,[(1,.keep),(7,.keep),(11,.keep),(12,.keep),(13,.keep),(19,.keep),(20,.keep),(21,.keep)],[]⟩]
theorem w34{x0:Dat}{s1:List UInt8}{g:Glob}{Qf:OGP}(h0:HasTy TT 23 x0)(h1:s1.length≤2^40)
 (h:L34_2 s1 x0 (↑(elsOf x0).length:Int) 0 g Qf):
 EvF TT 34 [x0,.str s1] g Qf:=
 sx_fun (rk:=rk) (fn:=Tryz.f34) (loops:=lo34) (joins:=[]) (n:=100000) (args:=[(23,x0),(9,.str s1)]) rfl rfl rfl rfl ⟨h0,tyStr rfl h1,trivial⟩ (by kernel_rfl) h
theorem w34_2{s1:List UInt8}{x11:Dat}{n12:Int}{n13:Int}{g:Glob}{Qf:OGP}
 (h:Br (decide (n13<n12)) (InB n13 (elsOf x11).length∧L34_5 s1 n13 x11 n12 n13 (fld (getE (elsOf x11) n13) 2) (↑(elsOf (fld (getE (elsOf x11) n13) 2)).length:Int) 0 g Qf) (Qf (.val (.tuple [.d (.int .i64 0),.d (.int .i64 0),.d (.bool false)])) g)):
 L34_2 s1 x11 n12 n13 g Qf:=sx_cut (rk:=rk) (loops:=lo34) (joins:=[]) (n:=100000) (by kernel_rfl) h
theorem w34_5{s1:List UInt8}{n7:Int}{x11:Dat}{n12:Int}{n13:Int}{x19:Dat}{n20:Int}{n21:Int}{g:Glob}{Qf:OGP}
 (h:Br (decide (n21<n20)) (InB n21 (elsOf x19).length∧Br (strOf (fld (getE (elsOf x19) n21) 0)==s1) (Qf (.val (.tuple [.d (.int .i64 n7),.d (.int .i64 n21),.d (.bool true)])) g) (L34_5 s1 n7 x11 n12 n13 x19 n20 (IntKind.i64.wrap (n21+1)) g Qf)) (L34_2 s1 x11 n12 (IntKind.i64.wrap (n13+1)) g Qf)):
 L34_5 s1 n7 x11 n12 n13 x19 n20 n21 g Qf:=sx_cut (rk:=rk) (loops:=lo34) (joins:=[]) (n:=100000) (by kernel_rfl) h
def lo10:List CutI:=[]
theorem w10{x0:Dat}{s1:List UInt8}{g:Glob}{Qf:OGP}(h0:HasTy TT 29 x0)(h1:s1.length≤2^40)
 (h:EvF TT 21 [x0] g (KQ Qf λv g'=>∃b,v=.d (.bool b)∧Br b (EvF TT 28 [] g' (KQ Qf λv g'=>∃b,v=.d (.bool b)∧Qf (.val (.d (.bool b))) g')) (EvF TT 23 [x0] g' (KQ Qf λv g'=>∃x,HasTy TT 29 x∧v=.d x∧EvF TT 31 [x] g' (KQ Qf λv g'=>∃x,HasTy TT 23 x∧RetV v x∧EvF TT 32 [x0] g' (KQ Qf λv g'=>∃x_1,HasTy TT 23 x_1∧RetV v x_1∧EvF TT 33 [x,x_1,.bool true] g' (KQ Qf λv g'=>∃b,v=.d (.bool b)∧Br (!b) (Qf (.val (.d (.bool false))) g') (EvF TT 34 [x,.str s1] g' (KQ Qf λv g'=>∃n n_1 b,RetT v [.int .i64 n,.int .i64 n_1,.bool b]∧EvF TT 35 [x_1,.str s1] g' (KQ Qf λv g'=>∃n_2 n_3 b_1,RetT v [.int .i64 n_2,.int .i64 n_3,.bool b_1]∧EvF TT 36 [fld x0 0] g' (KQ Qf λv g'=>∃x,HasTy TT 23 x∧RetV v x∧EvF TT 34 [x,.str s1] g' (KQ Qf λv g'=>∃n_4 n_5 b_2,RetT v [.int .i64 n_4,.int .i64 n_5,.bool b_2]∧EvF TT 35 [fld x0 0,.str s1] g' (KQ Qf λv g'=>∃n_6 n_7 b_3,RetT v [.int .i64 n_6,.int .i64 n_7,.bool b_3]∧Br (n==n_2) (Br (n_1==n_3) (Br (b==b_1) (Br (n_4==n_6) (Br (n_5==n_7) (Br (b_2==b_3) (EvF TT 28 [] g' (KQ Qf λv g'=>∃b,v=.d (.bool b)∧Qf (.val (.d (.bool b))) g')) (Qf (.val (.d (.bool false))) g')) (Qf (.val (.d (.bool false))) g')) (Qf (.val (.d (.bool false))) g')) (Qf (.val (.d (.bool false))) g')) (Qf (.val (.d (.bool false))) g')) (Qf (.val (.d (.bool false))) g')))))))))))))):
 EvF TT 10 [x0,.str s1] g Qf:=
 sx_fun (rk:=rk) (fn:=Tryz.f10) (loops:=lo10) (joins:=[]) (n:=100000) (args:=[(29,x0),(9,.str s1)]) rfl rfl rfl rfl ⟨h0,tyStr rfl h1,trivial⟩ (by kernel_rfl) h
end Go.Proofs.YtgmapdcdmomioaaGreatDoor.Pa
namespace Go.Proofs.YtgmapdcdmomioaaGreatDoor.Pa
open Go Go.Proofs.YtgmapdcdmomioaaGreatDoor.Am
theorem twins_ok:∀(k:Nat) (x:Dat) (g:Glob),SizeOf.sizeOf x<k→HasTy TT 89 x→∀(Qf:OGP),(∀l:List Dat,(∀y∈l,HasTy TT 94 y)→l.length=(elsOf x).length→l.map absTy=(elsOf x).map absTy→Qf (.val (retOf 4 l)) g)→EvF TT 158 [x] g Qf
 |0,x,g,hk,_=>by omega
 |k+1,x,g,hk,hx=>by
  intro Qf hQ
  have ex:=hx.els undTypes
  have exl:=ex.1.1
  refine w158 hx ?_
  refine loopUp (len:=(elsOf x).length) (λi=>∀l:List Dat,l.length=i→(∀y∈l,HasTy TT 94 y)→l.map absTy=((elsOf x).take i).map absTy→L158_3 l x ((elsOf x).length:Int) (i:Int) g Qf) ?_ ?_ 0 (Nat.zero_le _) [] rfl (λy h=>by cases h) rfl
  ·intro l h1 h2 h3
   refine w158_3 ?_
   rw[Br_ge]
   rw[List.take_length] at h3
   exact hQ l h2 h1 h3
  ·intro i hi ih l h1 h2 h3
   refine w158_3 ?_
   rw[Br_lt hi,getE_nat hi]
   have hsz:=sizeOf_el hi
   obtain⟨k1,s1,n1,a1,e1,hs1,t1⟩:=type_ty (ex.2 _ (List.getElem_mem hi))
   have hab:absTy (elsOf x)[i]=.mk k1 s1 n1 (absTyA a1):=by rw[e1];rfl
   rw[e1] at hsz⊢
   have hc:=sizeOf_cell (cs:=[.int .i64 k1,.str s1,.int .i64 n1,a1]) (c:=a1) (by simp)
   refine⟨inB hi,twins_ok k a1 g (by omega) t1 _ λl' hl' hn' ha'=>?_⟩
   have ta:HasTy TT 89 (slOf 4 l'):=slOf_ty undTypes szType (by rw[hn'];exact(t1.els undTypes).1) hl'
   refine⟨slOf 4 l',ta,retOf_ret _ _,(ex.1.le (by simp;omega)).fits byType,?_⟩
   rw[wrap_nat (by omega)]
   refine ih _ (by simp[h1]) (λy hy=>?_) (take_snoc hi h3 ?_)
   ·rcases List.mem_append.1 hy with hy|hy
    ·exact h2 y hy
    ·simp only[List.mem_singleton] at hy;subst hy;exact ty_type hs1 ta
   ·rw[hab]
    show Ty.mk k1 s1 n1 (absTyA (slOf 4 l'))=_
    rw[absTyA_map,slOf_els,ha',←absTyA_map]
theorem allStr_ty:∀(l:List Dat),(∀y∈l,HasTy TT 9 y)→allStr l=true
 |[],_=>rfl
 |x::l,h=>by
  obtain⟨s,rfl,_⟩:=str_ty (h x (by simp))
  exact allStr_ty l λy hy=>h y (List.mem_cons_of_mem _ hy)
theorem elsOf_sl(m:Nat)(xs:List Dat):elsOf (.sl m xs)=xs:=rfl
theorem clone_ok(x:Dat)(g:Glob)(hx:HasTy TT 61 x)(Qf:OGP)(hQ:Qf (.val (.d (.sl 1 (elsOf x)))) g):EvF TT 157 [x] g Qf:=by
 refine clone_raw (r:=.val (.d (.sl 1 (elsOf x)))) g ?_ Qf hQ
 have ex:=hx.els undStrs
 cases x with
 |nil=>rfl
 |gsl t m xs=>
  have h1:allStr xs=true:=allStr_ty xs ex.2
  have h2:xs.length≤2^40:=ex.1.1
  have h3:m=1:=by
   cases hx with
   |gsl _ e _ _ _ h hm _ _=>
    rw[undStrs] at h
    cases h
    rw[szStr] at hm
    cases hm
    rfl
  subst h3
  show(bif Nat.beq 1 1&&allStr xs&&Nat.ble xs.length 8796093022208 then some (Out.val (.d (.sl 1 xs)),g) else none)=_
  rw[h1,Nat.ble_eq_true_of_le (by omega)]
  rfl
 |sl m xs=>
  have h1:allStr xs=true:=allStr_ty xs ex.2
  have h2:xs.length≤2^40:=ex.1.1
  have h3:m=1:=by
   cases hx with
   |sl _ e _ _ h hm _ _=>
    rw[undStrs] at h
    cases h
    rw[szStr] at hm
    cases hm
    rfl
  subst h3
  show(bif Nat.beq 1 1&&allStr xs&&Nat.ble xs.length 8796093022208 then some (Out.val (.d (.sl 1 xs)),g) else none)=_
  rw[h1,Nat.ble_eq_true_of_le (by omega)]
  rfl
 |_=>exact absurd hx (by intro h;cases h<;>simp_all[undStrs,isB0,isI0,isP0,isM,isF,isI,isAgg?,isB,isP,z0])
theorem twin_ok(x:Dat)(g:Glob)(hx:HasTy TT 76 x)(Qf:OGP)(hQ:∀r,HasTy TT 76 r→absDc r=absDc x→Qf (.val (.d r)) g):EvF TT 85 [x] g Qf:=by
 refine w85 hx ?_
 obtain⟨s2,a2,b2,p2,rfl,hs2,ha2,hb2⟩:=decl_ty hx
 have ea:=ha2.els undStrs
 have eb:=hb2.els undCons
 have ebl:=eb.1.1
 simp only[fld,nth,strOf,intOf]
 have hcl:HasTy TT 61 (.sl 1 (elsOf a2)):=.sl _ _ _ _ undStrs szStr ea.1 ea.2
 refine clone_ok a2 g ha2 _ ⟨_,hcl,rfl,?_⟩
 refine loopUp (len:=(elsOf b2).length) (λi=>∀l:List Dat,l.length=i→(∀y∈l,HasTy TT 91 y)→l.map absCn=((elsOf b2).take i).map absCn→L85_4 l b2 ((elsOf b2).length:Int) (i:Int) (Dat.agg [Dat.str [],Dat.nil,Dat.nil,Dat.int IntKind.i64 0]) (.agg [.str s2,.sl 1 (elsOf a2),b2,.int .i64 p2]) g Qf) ?_ ?_ 0 (Nat.zero_le _) [] rfl (λy h=>by cases h) rfl
 ·intro l h1 h2 h3
  refine w85_4 ?_
  rw[Br_ge]
  rw[List.take_length] at h3
  have tl:HasTy TT 74 (slOf 2 l):=slOf_ty undCons szCon (by rw[h1];exact eb.1) h2
  refine hQ (.agg [.str s2,.sl 1 (elsOf a2),slOf 2 l,.int .i64 p2]) (ty_decl hs2 hcl tl) ?_
  rw[absDc_agg,absDc_agg,slOf_els,elsOf_sl,h3]
 ·intro i hi ih l h1 h2 h3
  refine w85_4 ?_
  rw[Br_lt hi,getE_nat hi]
  obtain⟨s3,f1,e3,hs3,hf1⟩:=con_ty (eb.2 _ (List.getElem_mem hi))
  have hab:absCn (elsOf b2)[i]=⟨s3,absTyA f1⟩:=by rw[e3];rfl
  rw[e3]
  refine⟨inB hi,twins_ok _ f1 g (Nat.lt_succ_self _) hf1 _ λl' hl' hn' ha'=>?_⟩
  have ta:HasTy TT 89 (slOf 4 l'):=slOf_ty undTypes szType (by rw[hn'];exact(hf1.els undTypes).1) hl'
  refine⟨slOf 4 l',ta,retOf_ret _ _,(eb.1.le (by simp;omega)).fits byCon,?_⟩
  rw[wrap_nat (by omega)]
  refine ih _ (by simp[h1]) (λy hy=>?_) (take_snoc hi h3 ?_)
  ·rcases List.mem_append.1 hy with hy|hy
   ·exact h2 y hy
   ·simp only[List.mem_singleton] at hy;subst hy;exact ty_con hs3 ta
  ·rw[hab]
   show(⟨s3,absTyA (slOf 4 l')⟩:Cn)=_
   rw[absTyA_map,slOf_els,ha',←absTyA_map]
def baseL:List Dat:=[Dat.agg [Dat.str [117,110,105,116],Dat.nil,Dat.sl 2 [Dat.agg [Dat.str [85,110,105,116],Dat.nil]],Dat.int IntKind.i64 0],Dat.agg [Dat.str [98,111,111,108],Dat.nil,Dat.sl 2 [Dat.agg [Dat.str [70,97,108,115,101],Dat.nil],Dat.agg [Dat.str [84,114,117,101],Dat.nil]],Dat.int IntKind.i64 0],Dat.agg [Dat.str [108,105,115,116],Dat.sl 1 [Dat.str [97]],Dat.sl 2 [Dat.agg [Dat.str [78,105,108],Dat.nil],Dat.agg [Dat.str [67,111,110,115],Dat.sl 4 [Dat.agg [Dat.int IntKind.i64 2,Dat.str [97],Dat.int IntKind.i64 0,Dat.nil],Dat.agg [Dat.int IntKind.i64 4,Dat.str [108,105,115,116],Dat.int IntKind.i64 0,Dat.sl 4 [Dat.agg [Dat.int IntKind.i64 2,Dat.str [97],Dat.int IntKind.i64 0,Dat.nil]]]]]],Dat.int IntKind.i64 0]]
theorem fitOf{e:TypeId}{b n:Nat}(he:TT.bytes e=some b)(hb:b≤200)(h:n≤2^30):SlFit TT e n:=⟨by omega,λb' hb'=>by
 rw[he] at hb'
 cases hb'
 have:=Nat.mul_le_mul h hb
 omega⟩
theorem baseL_ty:∀y∈baseL,HasTy TT 76 y:=by
 have nilS:HasTy TT 61 .nil:=.nil _ (by rw[undStrs];rfl)
 have nilT:HasTy TT 89 .nil:=.nil _ (by rw[undTypes];rfl)
 have st:∀s:Str,s.length≤30→s.length≤2^40:=λs h=>by omega
 have con:∀(s:Str) (a:Dat),s.length≤30→HasTy TT 89 a→HasTy TT 91 (.agg [.str s,a]):=λs a h1 h2=>ty_con (st s h1) h2
 have cons:∀(xs:List Dat),xs.length≤30→xs≠[]→(∀x∈xs,HasTy TT 91 x)→HasTy TT 74 (.sl 2 xs):=λxs h1 h2 h3=>by
  have:=sl_ty (xs:=xs) undCons szCon (fitOf byCon (by omega) (by omega)) h3
  cases xs with
  |nil=>exact absurd rfl h2
  |cons a l=>exact this
 have types:∀(xs:List Dat),xs.length≤30→xs≠[]→(∀x∈xs,HasTy TT 94 x)→HasTy TT 89 (.sl 4 xs):=λxs h1 h2 h3=>by
  have:=sl_ty (xs:=xs) undTypes szType (fitOf byType (by omega) (by omega)) h3
  cases xs with
  |nil=>exact absurd rfl h2
  |cons a l=>exact this
 have tv:HasTy TT 94 (Dat.agg [Dat.int IntKind.i64 2,Dat.str [97],Dat.int IntKind.i64 0,Dat.nil]):=ty_type (by simp) nilT
 have tl:HasTy TT 94 (Dat.agg [Dat.int IntKind.i64 4,Dat.str [108,105,115,116],Dat.int IntKind.i64 0,Dat.sl 4 [Dat.agg [Dat.int IntKind.i64 2,Dat.str [97],Dat.int IntKind.i64 0,Dat.nil]]]):=ty_type (by simp) (types _ (by simp) (by simp) (by simpa using tv))
 intro y hy
 simp only[baseL,List.mem_cons,List.not_mem_nil,or_false] at hy
 rcases hy with rfl|rfl|rfl
 ·exact ty_decl (by simp) nilS (cons _ (by simp) (by simp) (by simpa using con _ _ (by simp) nilT))
 ·exact ty_decl (by simp) nilS (cons _ (by simp) (by simp) (by simpa using⟨con _ _ (by simp) nilT,con _ _ (by simp) nilT⟩))
 ·exact ty_decl (by simp) (ty_strs (l:=[[97]]) (by simp) (by simp) (by simp)) (cons _ (by simp) (by simp) (by simpa using⟨con _ _ (by simp) nilT,con _ _ (by simp) (types _ (by simp) (by simp) (by simpa using⟨tv,tl⟩))⟩))
def allDc(P:Pg):List Dc:=baseL.map absDc++P.ds
theorem scopeAll_ok(x:Dat)(g:Glob)(hx:HasTy TT 29 x)(hn:(absPg x).ds.length≤2^22)(Qf:OGP)(hQ:∀r,HasTy TT 23 r→(elsOf r).map absDc=allDc (absPg x)→∀v,RetV v r→Qf (.val v) g):EvF TT 31 [x] g Qf:=by
 refine w31 hx ?_
 obtain⟨d1,k1,s1,r1,n1,a1,b1,p1,rfl,hd1,he1⟩:=prog_ty hx
 have ed:=hd1.els undDecls
 have hn:(elsOf d1).length≤2^22:=by
  have:(absPg (.agg [d1,.int .i64 k1,.str s1,.str r1,.int .i64 n1,a1,b1,.int .i64 p1])).ds.length=(elsOf d1).length:=List.length_map _
  omega
 have h0:fld (.agg [d1,.int .i64 k1,.str s1,.str r1,.int .i64 n1,a1,b1,.int .i64 p1]) 0=d1:=rfl
 rw[h0]
 refine loopUp (len:=(elsOf d1).length) (λi=>∀l:List Dat,l.length=3+i→(∀y∈l,HasTy TT 76 y)→l.map absDc=baseL.map absDc++((elsOf d1).take i).map absDc→L31_3 l d1 ((elsOf d1).length:Int) (i:Int) g Qf) ?_ ?_ 0 (Nat.zero_le _) baseL rfl baseL_ty (by simp)
 ·intro l h1 h2 h3
  refine w31_3 ?_
  rw[Br_ge]
  rw[List.take_length] at h3
  have hne:l≠[]:=λe=>by rw[e] at h1;simp at h1;omega
  have hty:HasTy TT 23 (.sl 4 l):=by
   have:=sl_ty (xs:=l) undDecls szDecl (fitOf byDecl (by omega) (by omega)) h2
   cases l with
   |nil=>exact absurd rfl hne
   |cons a l=>exact this
  exact hQ _ hty h3 _ rfl
 ·intro i hi ih l h1 h2 h3
  refine w31_3 ?_
  rw[Br_lt hi,getE_nat hi]
  refine⟨inB hi,twin_ok _ g (ed.2 _ (List.getElem_mem hi)) _ λr hr er=>⟨r,hr,rfl,(fitOf byDecl (by omega) (by simp;omega)).fits byDecl,?_⟩⟩
  rw[wrap_nat (by omega)]
  refine ih _ (by simp[h1];omega) (λy hy=>?_) ?_
  ·rcases List.mem_append.1 hy with hy|hy
   ·exact h2 y hy
   ·simp only[List.mem_singleton] at hy;subst hy;exact hr
  ·rw[List.map_append,h3,List.append_assoc,List.take_succ,List.getElem?_eq_getElem hi,List.map_append]
   simp[er]
def findCn(s:Str):List Cn→Int→Option Int
 |[],_=>none
 |c::l,i=>bif c.s==s then some i else findCn s l (i+1)
def findDc(s:Str):List Dc→Int→Int×Int×Bool
 |[],_=>(0,0,false)
 |d::l,i=>match findCn s d.cs 0 with
  |some k=>(i,k,true)
  |none=>findDc s l (i+1)
def out3(r:Int×Int×Bool):Out:=.val (.tuple [.d (.int .i64 r.1),.d (.int .i64 r.2.1),.d (.bool r.2.2)])
theorem find_ok(x:Dat)(s:Str)(g:Glob)(hx:HasTy TT 23 x)(hs:s.length≤2^40)(Qf:OGP)(hQ:Qf (out3 (findDc s ((elsOf x).map absDc) 0)) g):EvF TT 34 [x,.str s] g Qf:=by
 have ed:=hx.els undDecls
 have edl:=ed.1.1
 refine w34 hx hs ?_
 refine loopUp (len:=(elsOf x).length) (λi=>Qf (out3 (findDc s (((elsOf x).drop i).map absDc) (i:Int))) g→L34_2 s x ((elsOf x).length:Int) (i:Int) g Qf) ?_ ?_ 0 (Nat.zero_le _) hQ
 ·intro hQ
  refine w34_2 ?_
  rw[Br_ge]
  rw[List.drop_length] at hQ
  exact hQ
 ·intro i hi ih hQ
  refine w34_2 ?_
  rw[Br_lt hi,getE_nat hi]
  rw[drop_map_cons hi,findDc,absDc_cs] at hQ
  obtain⟨s2,a2,b2,p2,e2,_,ha2,hb2⟩:=decl_ty (ed.2 _ (List.getElem_mem hi))
  rw[e2] at hQ⊢
  have f2:fld (Dat.agg [.str s2,a2,b2,.int .i64 p2]) 2=b2:=rfl
  rw[f2] at hQ⊢
  have eb:=hb2.els undCons
  have ebl:=eb.1.1
  refine⟨inB hi,?_⟩
  refine loopUp (len:=(elsOf b2).length) (λj=>Qf (match findCn s (((elsOf b2).drop j).map absCn) (j:Int) with|some k=>out3 ((i:Int),k,true)|none=>out3 (findDc s (((elsOf x).drop (i+1)).map absDc) ((i:Int)+1))) g→L34_5 s (i:Int) x ((elsOf x).length:Int) (i:Int) b2 ((elsOf b2).length:Int) (j:Int) g Qf) ?_ ?_ 0 (Nat.zero_le _) ?_
  ·intro hQ
   refine w34_5 ?_
   rw[Br_ge,wrap_nat (by omega)]
   rw[List.drop_length] at hQ
   exact ih hQ
  ·intro j hj ihj hQ
   refine w34_5 ?_
   rw[Br_lt hj,getE_nat hj]
   rw[drop_map_cons hj,findCn] at hQ
   refine⟨inB hj,?_⟩
   show Br ((absCn (elsOf b2)[j]).s==s) _ _
   cases hc:((absCn (elsOf b2)[j]).s==s) with
   |true=>rw[hc] at hQ;exact hQ
   |false=>
    rw[hc] at hQ
    rw[Br_false,wrap_nat (by omega)]
    exact ihj hQ
  ·rw[List.drop_zero]
   cases hf:findCn s ((elsOf b2).map absCn) 0 with
   |none=>
    rw[hf] at hQ
    exact hQ
   |some k=>
    rw[hf] at hQ
    exact hQ
end Go.Proofs.YtgmapdcdmomioaaGreatDoor.Pa
