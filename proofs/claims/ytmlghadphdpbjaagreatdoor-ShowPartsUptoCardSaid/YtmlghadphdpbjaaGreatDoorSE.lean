/- Show: programs, expressions, types, of the program's and of the document's. Show: the laws ShowPrograms and ShowParts. -/
import Derived.Test.YtmlghadphdpbjaaGreatDoorSD
set_option linter.all false
set_option autoImplicit false
set_option maxRecDepth 100000
namespace Go.Proofs.YtmlghadphdpbjaaGreatDoor.Pa
open Go Go.Proofs.YtmlghadphdpbjaaGreatDoor.Am
section
variable{g:Glob}{q w:Nat}{b full:Str}{Qf:OGP}{x:Dat}
end
def shS(ok:Bool)(s:Str):Str:=bif ok&&Nat.ble s.length 8192 then s else[]
def shN(ok:Bool)(s:Str):Int:=bif ok then(bif Nat.ble s.length 8192 then 0 else 2) else 1
theorem shS_len(ok:Bool)(s:Str):(shS ok s).length≤8192:=by
 unfold shS
 cases h:(ok&&Nat.ble s.length 8192) with
 |true=>rw[Bool.and_eq_true] at h;exact Nat.le_of_ble_eq_true h.2
 |false=>simp
theorem cut_sh(s:Str):cut s=[.str (shS true s),.int .i64 (shN true s)]:=by
 unfold shS shN
 by_cases h:s.length≤8192
 ·rw[cut_le h,Nat.ble_eq_true_of_le h];rfl
 ·rw[cut_gt (by omega),show Nat.ble s.length 8192=false from Bool.eq_false_iff.2 λe=>h (Nat.le_of_ble_eq_true e)];rfl
def Shown(ok:Bool)(s:Str)(Qf:OGP):Prop:=∀g',Qf (.val (.tuple [.d (.str (shS ok s)),.d (.int .i64 (shN ok s))])) g'
theorem wr_new(g:Glob):Wr (gnew (gnew g [.nil]) [.iface 63 (.ptr (some (g.boxes.length,0)))]) (gnew g [.nil]).boxes.length g.boxes.length []:=by
 refine⟨by simp[gnew],⟨.nil,by simp[gnew],.inl ⟨rfl,rfl⟩⟩,by simp[gnew]⟩
theorem pn_new(g:Glob):Pn (gnew g [.nil]) g.boxes.length []:=⟨[],⟨.nil,by simp[gnew],.inl ⟨rfl,rfl⟩⟩,.inl rfl,by simp⟩
section
variable{g:Glob}{q w:Nat}{b full:Str}{Qf:OGP}{x:Dat}
theorem doneR(hw:Wr g w q b)(hl:b.length≤2^40)(hQ:Shown true b Qf):EvF TT 28 [.ptr (some (w,0))] g (KQ Qf λv g'=>∃s,s.length.le 1099511627776∧∃n,RetT v [Dat.str s,Dat.int IntKind.i64 n]∧Qf (Out.val (Val.tuple [Val.d (Dat.str s),Val.d (Dat.int IntKind.i64 n)])) g'):=by
 refine done_ok hw hl ?_
 rw[cut_sh]
 exact⟨shS true b,leLe (Nat.le_trans (shS_len _ _) (by omega)),shN true b,⟨rfl,rfl,trivial⟩,hQ _⟩
theorem toldR(hp:Pn g q full)(hQ:Shown true full Qf):EvF TT 32 [.ptr (some (q,0))] g (KQ Qf λv g'=>∃s,s.length.le 1099511627776∧∃n,RetT v [Dat.str s,Dat.int IntKind.i64 n]∧Qf (Out.val (Val.tuple [Val.d (Dat.str s),Val.d (Dat.int IntKind.i64 n)])) g'):=by
 refine told_ok hp ?_
 rw[cut_sh]
 exact⟨shS true full,leLe (Nat.le_trans (shS_len _ _) (by omega)),shN true full,⟨rfl,rfl,trivial⟩,hQ _⟩
def exPg(e:Ex'):Pg:=⟨[],e⟩
theorem nilDecls:HasTy TT 42 .nil:=.nil _ (by rw[undDecls];rfl)
theorem showExpr_ok(hx:HasTy TT 25 x)(hp:Pre (exPg (absEx x)))(hQ:Shown (rCheckP (exPg (absEx x))) (tEx (absEx x)) Qf):EvF TT 11 [x] g Qf:=by
 refine w11 hx ?_
 obtain⟨k1,s1,r1,n1,a1,b1,p1,rfl,hs1,hr1,t1,u1⟩:=expr_ty hx
 have hP:absPg (.agg [.nil,.int .i64 k1,.str s1,.str r1,.int .i64 n1,a1,b1,.int .i64 p1])=exPg (absEx (.agg [.int .i64 k1,.str s1,.str r1,.int .i64 n1,a1,b1,.int .i64 p1])):=rfl
 refine parseCheck_ok (x:=.agg [.nil,.int .i64 k1,.str s1,.str r1,.int .i64 n1,a1,b1,.int .i64 p1]) (ty_prog nilDecls hx) (by rw[hP];exact hp) ⟨_,rfl,?_⟩
 rw[checkP_eq,hP]
 generalize Dat.agg [.int .i64 k1,.str s1,.str r1,.int .i64 n1,a1,b1,.int .i64 p1]=X at*
 cases hc:rCheckP (exPg (absEx X)) with
 |false=>rw[hc] at hQ;exact hQ g
 |true=>
  rw[hc] at hQ
  obtain⟨c1,c2,c3,c4⟩:=check_show hc
  have le:=tEx_len _ c3
  have c2:szEx (absEx X)≤2048:=c2
  rw[Bool.not_true,Br_false]
  refine exprW _ X _ _ _ [] _ (Nat.lt_succ_self _) hx c3 (wr_new g) (by simp only[exPg] at le;simp only[List.length_nil];omega) λg2 h2=>⟨trivial,doneR h2 (by simp only[exPg] at le;simp only[List.nil_append];omega) ?_⟩
  simpa using hQ
theorem refExpr_ok(hx:HasTy TT 25 x)(hp:Pre (exPg (absEx x)))(hQ:Shown (rCheckP (exPg (absEx x))) (tEx (absEx x)) Qf):EvF TT 13 [x] g Qf:=by
 refine w13 hx ?_
 obtain⟨k1,s1,r1,n1,a1,b1,p1,rfl,hs1,hr1,t1,u1⟩:=expr_ty hx
 have hP:absPg (.agg [.nil,.int .i64 k1,.str s1,.str r1,.int .i64 n1,a1,b1,.int .i64 p1])=exPg (absEx (.agg [.int .i64 k1,.str s1,.str r1,.int .i64 n1,a1,b1,.int .i64 p1])):=rfl
 refine rCheck_ok (x:=.agg [.nil,.int .i64 k1,.str s1,.str r1,.int .i64 n1,a1,b1,.int .i64 p1]) (ty_prog nilDecls hx) (by rw[hP];exact hp) ⟨_,rfl,?_⟩
 rw[hP]
 generalize Dat.agg [.int .i64 k1,.str s1,.str r1,.int .i64 n1,a1,b1,.int .i64 p1]=X at*
 cases hc:rCheckP (exPg (absEx X)) with
 |false=>rw[hc] at hQ;exact hQ g
 |true=>
  rw[hc] at hQ
  obtain⟨c1,c2,c3,c4⟩:=check_show hc
  rw[Bool.not_true,Br_false]
  refine exprP _ X _ _ [] _ (Nat.lt_succ_self _) hx c3 (pn_new g) λg2 h2=>⟨trivial,toldR h2 ?_⟩
  simpa using hQ
def tyDat(c:Str)(x:Dat):Dat:=.agg [.sl 4 [.agg [.str [116],.nil,.sl 2 [.agg [.str c,.sl 4 [x]]],.int .i64 0]],.int .i64 2,.str [],.str [],.int .i64 0,.nil,.nil,.int .i64 0]
theorem fitOne{e:TypeId}{b:Nat}(he:TT.bytes e=some b)(hb:b≤200):SlFit TT e 1:=⟨by omega,λb' hb'=>by
 rw[he] at hb'
 cases hb'
 omega⟩
theorem tyDat_ty{c:Str}(hc:c.length≤30)(hx:HasTy TT 28 x):HasTy TT 44 (tyDat c x):=by
 have nilS:HasTy TT 47 .nil:=.nil _ (by rw[undStrs];rfl)
 have nilE:HasTy TT 22 .nil:=.nil _ (by rw[undExprs];rfl)
 have nilP:HasTy TT 23 .nil:=.nil _ (by rw[undPats];rfl)
 have one:∀{t e:TypeId} {m:Nat} {d:Dat},TT.und t=some (.slice e)→TT.size e=some m→SlFit TT e 1→HasTy TT e d→HasTy TT t (.sl m [d]):=λhu hs hf hd=>
  .sl _ _ _ _ hu hs hf λy hy=>by simp only[List.mem_singleton] at hy;subst hy;exact hd
 exact ty_prog (one undDecls szDecl (fitOne byDecl (by omega)) (ty_decl (by simp) nilS (one undCons szCon (fitOne byCon (by omega)) (ty_con (by omega) (one undTypes szType (fitOne byType (by omega)) hx))))) (ty_expr (by simp) (by simp) nilE nilP)
theorem tyDat_abs(c:Str)(x:Dat):absPg (tyDat c x)=tyPg c (absTy x):=rfl
theorem showType_ok(hx:HasTy TT 28 x)(hp:Pre (tyPg [84] (absTy x)))(hQ:Shown (rCheckP (tyPg [67] (absTy x))) (tTy (absTy x)) Qf):EvF TT 14 [x] g Qf:=by
 refine w14 hx ?_
 refine parseCheck_ok (x:=tyDat [84] x) (tyDat_ty (by simp) hx) (by rw[tyDat_abs];exact hp) ⟨_,rfl,?_⟩
 rw[checkP_eq,tyDat_abs,tyPg_check]
 cases hc:rCheckP (tyPg [67] (absTy x)) with
 |false=>rw[hc] at hQ;exact hQ g
 |true=>
  rw[hc] at hQ
  have ho:=tyPg_ok hc
  have le:=tTy_len _ ho
  have hn:ndTy (absTy x)≤20000:=((hp.ds _ List.mem_cons_self).2 ⟨[84],[absTy x]⟩ List.mem_cons_self (absTy x) List.mem_cons_self).1
  rw[Bool.not_true,Br_false]
  refine typ_ok _ x _ _ _ [] _ (Nat.lt_succ_self _) hx ho (wr_new g) (by simp only[List.length_nil];omega) λg2 h2=>⟨trivial,doneR h2 (by simp only[List.nil_append];omega) ?_⟩
  simpa using hQ
theorem refType_ok(hx:HasTy TT 28 x)(hp:Pre (tyPg [67] (absTy x)))(hQ:Shown (rCheckP (tyPg [67] (absTy x))) (tTy (absTy x)) Qf):EvF TT 16 [x] g Qf:=by
 refine w16 hx ?_
 refine rCheck_ok (x:=tyDat [67] x) (tyDat_ty (by simp) hx) (by rw[tyDat_abs];exact hp) ⟨_,rfl,?_⟩
 rw[tyDat_abs]
 cases hc:rCheckP (tyPg [67] (absTy x)) with
 |false=>rw[hc] at hQ;exact hQ g
 |true=>
  rw[hc] at hQ
  have ho:=tyPg_ok hc
  rw[Bool.not_true,Br_false]
  refine typP _ x _ _ [] _ (Nat.lt_succ_self _) hx ho (pn_new g) λg2 h2=>⟨trivial,toldR h2 ?_⟩
  simpa using hQ
end
end Go.Proofs.YtmlghadphdpbjaaGreatDoor.Pa
namespace Go.Proofs.YtmlghadphdpbjaaGreatDoor.Pa
open Go Go.Proofs.YtmlghadphdpbjaaGreatDoor.Am
theorem exPre{x:Dat}(h1:szEx (absEx x)≤20000)(h2:dpEx (absEx x)≤601):Pre (exPg (absEx x)):=⟨λd hd=>(by cases hd),h1,Nat.le_trans h2 (by decide)⟩
theorem tyPre{x:Dat}{c:Str}(hx:HasTy TT 28 x)(hb:StrB x)(h1:ndTy (absTy x)≤20000)(h2:dpTy (absTy x)≤601):Pre (tyPg c (absTy x)):=
 ⟨λd hd=>by
  cases List.mem_singleton.1 hd
  refine⟨λs hs=>(by cases hs),λc hc t ht=>?_⟩
  cases List.mem_singleton.1 hc
  cases List.mem_singleton.1 ht
  exact⟨h1,Nat.le_trans h2 (by decide),vr_of _ x (Nat.lt_succ_self _) hx hb⟩,by show szEx (.mk 2 [] [] 0 [] [] 0)≤_;decide,by show dpEx (.mk 2 [] [] 0 [] [] 0)≤_;decide⟩
theorem copyType_ok{x:Dat}{g:Glob}{Qf:OGP}(hx:HasTy TT 28 x)(hQ:∀r,HasTy TT 28 r→absTy r=absTy x→Qf (.val (.d r)) g):EvF TT 15 [x] g Qf:=by
 refine w15 hx ?_
 have one:HasTy TT 26 (.sl 4 [x]):=.sl _ _ _ _ undTypes szType (fitOne byType (by omega)) λy hy=>by simp only[List.mem_singleton] at hy;subst hy;exact hx
 refine copyTypes_ok _ _ g (Nat.lt_succ_self _) one _ λm hm hmn hma=>?_
 obtain⟨y,rfl⟩:∃y,m=[y]:=by
  match m,hmn with
  |[y],_=>exact⟨y,rfl⟩
 have hy:=hm y (by simp)
 have hya:absTy y=absTy x:=by
  have:=hma
  simpa[elsOf] using this
 have two:HasTy TT 26 (.sl 4 [y]):=.sl _ _ _ _ undTypes szType (fitOne byType (by omega)) λz hz=>by simp only[List.mem_singleton] at hz;subst hz;exact hy
 obtain⟨k2,s2,n2,a2,rfl,hs2,t2⟩:=type_ty hy
 exact⟨.sl 4 [.agg [.int .i64 k2,.str s2,.int .i64 n2,a2]],two,rfl,⟨Int.le_refl _,by simp[elsOf]⟩,hQ _ hy hya⟩
theorem showPartsLaw(x t:Dat)(g:Glob)(hx:HasTy TT 25 x)(ht:HasTy TT 28 t)(hbx:StrB x)(hbt:StrB t)(Qf:OGP)(hQ:∀g',Qf (.val (.d (.bool true))) g'):EvF TT 3 [x,t] g Qf:=by
 refine w3 hx ht ?_
 refine w8 hx (weighExpr_all _ _ g _ _ (Nat.lt_succ_self _) hx (by omega) (by omega) (by omega) (by omega) _ λr l0 l1 hr=>⟨_,rfl,⟨_,rfl,Br_iff.2 ⟨λ_=>wakes_ok g _ ⟨_,rfl,hQ _⟩,λhc=>?_⟩⟩⟩)
 have hr:=hr (by have:=of_decide_eq_false hc;omega)
 refine w9 ht (weighType_all _ _ g _ _ (Nat.lt_succ_self _) ht (by omega) (by omega) (by omega) (by omega) _ λr2 m0 m1 hr2=>⟨_,rfl,⟨_,rfl,Br_iff.2 ⟨λ_=>wakes_ok g _ ⟨_,rfl,hQ _⟩,λhc=>?_⟩⟩⟩)
 have hr2:=hr2 (by have:=of_decide_eq_false hc;omega)
 have hpx:Pre (exPg (absEx x)):=exPre (by omega) (by omega)
 have hpt:∀c,Pre (tyPg c (absTy t)):=λc=>tyPre ht hbt (by omega) (by omega)
 refine copyExprs_ok _ _ g (Nat.lt_succ_self _) (one_expr hx) _ λm hm hmn hma=>?_
 obtain⟨y,rfl⟩:∃y,m=[y]:=by
  match m,hmn with
  |[y],_=>exact⟨y,rfl⟩
 have hy:=hm y (by simp)
 have hya:absEx y=absEx x:=by
  have:=hma
  simpa[elsOf] using this
 refine⟨.sl 7 [y],one_expr hy,rfl,⟨Int.le_refl _,by simp[elsOf]⟩,?_⟩
 rw[show getE (elsOf (.sl 7 [y])) 0=y from rfl]
 refine showExpr_ok hy (by rw[hya];exact hpx) λg1=>⟨_,leLe (Nat.le_trans (shS_len _ _) (by omega)),_,⟨rfl,rfl,trivial⟩,?_⟩
 refine refExpr_ok hx hpx λg2=>⟨_,leLe (Nat.le_trans (shS_len _ _) (by omega)),_,⟨rfl,rfl,trivial⟩,?_⟩
 refine copyType_ok ht λu hu eu=>⟨u,hu,rfl,?_⟩
 refine showType_ok hu (by rw[eu];exact hpt _) λg3=>⟨_,leLe (Nat.le_trans (shS_len _ _) (by omega)),_,⟨rfl,rfl,trivial⟩,?_⟩
 refine refType_ok ht (hpt _) λg4=>⟨_,leLe (Nat.le_trans (shS_len _ _) (by omega)),_,⟨rfl,rfl,trivial⟩,?_⟩
 rw[hya,eu]
 simp only[beq_self_eq_true,Br_true]
 exact wakes_ok g4 _ ⟨_,rfl,hQ _⟩
end Go.Proofs.YtmlghadphdpbjaaGreatDoor.Pa
