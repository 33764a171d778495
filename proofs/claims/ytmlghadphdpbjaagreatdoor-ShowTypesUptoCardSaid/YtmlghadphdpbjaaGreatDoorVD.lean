/- Show: the laws ShowPrograms and ShowParts. Proved: a type that was written is read, as a Field, as the type that it was (the law ShowTypes). -/
import Derived.Test.YtmlghadphdpbjaaGreatDoorSE
import Derived.Test.YtmlghadphdpbjaaGreatDoorVC
set_option linter.all false
set_option autoImplicit false
set_option maxRecDepth 100000
namespace Go.Proofs.YtmlghadphdpbjaaGreatDoor.Pa
open Go Go.Proofs.YtmlghadphdpbjaaGreatDoor.Am
theorem tyPre{x:Dat}{c:Str}(hx:HasTy TT 28 x)(hb:StrB x)(h1:ndTy (absTy x)≤20000)(h2:dpTy (absTy x)≤601):Pre (tyPg c (absTy x)):=
 ⟨λd hd=>by
  cases List.mem_singleton.1 hd
  refine⟨λs hs=>(by cases hs),λc hc t ht=>?_⟩
  cases List.mem_singleton.1 hc
  cases List.mem_singleton.1 ht
  exact⟨h1,Nat.le_trans h2 (by decide),vr_of _ x (Nat.lt_succ_self _) hx hb⟩,by show szEx (.mk 2 [] [] 0 [] [] 0)≤_;decide,by show dpEx (.mk 2 [] [] 0 [] [] 0)≤_;decide⟩
theorem copyType_ok{x:Dat}{g:Glob}{Qf:OGP}(hx:HasTy TT 28 x)(hQ:∀r,HasTy TT 28 r→absTy r=absTy x→Qf (.val (.d r)) g):EvF TT 15 [x] g Qf:=by
 refine w15 hx ?_
 have one:HasTy TT 26 (.sl 4 [x]):=.sl _ _ _ _ undTypes szType (fitOne byType (by omega)) λy hy=>by simp only[List.mem_singleton] at hy;subst hy;exact hx
 refine copyTypes_ok _ _ g (Nat.lt_succ_self _) one _ λm hm hmn hma=>?_
 obtain⟨y,rfl⟩:∃y,m=[y]:=by
  match m,hmn with
  |[y],_=>exact⟨y,rfl⟩
 have hy:=hm y (by simp)
 have hya:absTy y=absTy x:=by
  have:=hma
  simpa[elsOf] using this
 have two:HasTy TT 26 (.sl 4 [y]):=.sl _ _ _ _ undTypes szType (fitOne byType (by omega)) λz hz=>by simp only[List.mem_singleton] at hz;subst hz;exact hy
 obtain⟨k2,s2,n2,a2,rfl,hs2,t2⟩:=type_ty hy
 exact⟨.sl 4 [.agg [.int .i64 k2,.str s2,.int .i64 n2,a2]],two,rfl,⟨Int.le_refl _,by simp[elsOf]⟩,hQ _ hy hya⟩
end Go.Proofs.YtmlghadphdpbjaaGreatDoor.Pa
namespace Go.Proofs.YtmlghadphdpbjaaGreatDoor.Pa
open Go Go.Proofs.YtmlghadphdpbjaaGreatDoor.Am
def tyText(u:Str):Str:=[116,121,112,101,32]++([116]++([32]++((39::[97])++(tEqS++([67]++([32]++([40]++(u++([41]++([59]++([32]++[49])))))))))))
def tyToks(k:List Tk):List Tk:=[(5,kType,0)]++([(1,[116],0)]++([]++([(3,[97],0)]++([(6,sEq,0)]++([(2,[67],0)]++([]++([(6,sOpen,0)]++(k++([(6,sClose,0)]++([(6,sSemi,0)]++([]++[(4,[],1)])))))))))))
theorem lx_one:Lx [49] [(4,[],1)] []:=by
 have e:tInt 1=[49]:=by
  unfold tInt
  rw[if_neg (by decide)]
  unfold decS
  rfl
 have:=lx_int (n:=1) (w:=[]) rfl dl_nil
 rw[e] at this
 exact this
theorem lxTyText{t:Ty}(h:okTy t=true):Lx (tyText (tTy t)) (tyToks (qTy t)) []:=
 Lx.app lx_ktype (Lx.app (lx_low rfl dl_sp) (Lx.app .sp (Lx.app (lx_var rfl dl_sp) (Lx.app lx_eqs (Lx.app (lx_up rfl dl_sp) (Lx.app .sp (Lx.app lx_open (Lx.app (lxTy t h _ dl_cl) (Lx.app lx_close (Lx.app lx_semi (Lx.app .sp lx_one)))))))))))
theorem readTy{t:Ty}(h:okTy t=true)(hl:(tyText (tTy t)).length≤8192):(∃p e,parseAll (tyText (tTy t))=.ok ⟨[⟨[116],[[97]],[⟨[67],[t]⟩],p⟩],e⟩)∨∃p e,(e=3∨e=4)∧parseAll (tyText (tTy t))=.err p e:=by
 have hx:=(lxTyText h).2 0 [] (by simp)
 simp only[List.append_nil,List.nil_append,List.length_nil,Nat.zero_add] at hx
 rw[←lexAll_A hl] at hx
 by_cases hc:(tyToks (qTy t)).length≤4096
 ·obtain⟨l,e1,e2⟩:=hx.1 hc
  rw[lexA_nil] at e2
  obtain⟨q0,l0,rfl,i0⟩:=is_cons (l:=l) e1
  obtain⟨q1,l1,rfl,i1⟩:=is_cons i0
  obtain⟨q2,l2,rfl,i2⟩:=is_cons (k:=(3,[97],0)) i1
  obtain⟨q3,l3,rfl,i3⟩:=is_cons i2
  obtain⟨q4,l4,rfl,i4⟩:=is_cons i3
  obtain⟨q5,l5,rfl,i5⟩:=is_cons (k:=(6,sOpen,0)) i4
  obtain⟨l',l6,rfl,i',i6⟩:=is_app i5
  obtain⟨q6,l7,rfl,i7⟩:=is_cons i6
  obtain⟨q7,l8,rfl,i8⟩:=is_cons i7
  obtain⟨q8,rfl⟩:=is_one (k:=(4,[],1)) i8
  have key:∀n,16*l'.length+100≤n→∃e',gProg (tyText (tTy t)).length (n+1) [] (((5,kType,0),q0)::((1,[116],0),q1)::((3,[97],0),q2)::((6,sEq,0),q3)::((2,[67],0),q4)::((6,sOpen,0),q5)::(l'++((6,sClose,0),q6)::((6,sSemi,0),q7)::[((4,[],1),q8)]))=.ok ⟨[⟨[116],[[97]],[⟨[67],[t]⟩],q0⟩],e'⟩ []:=λn hn=>by
   obtain⟨j,rfl⟩:∃j,n=j+3:=⟨n-3,by omega⟩
   have gt:=(rTy (en:=(tyText (tTy t)).length) j).2.2.2 t l' (((6,sClose,0),q6)::((6,sSemi,0),q7)::[((4,[],1),q8)]) h i' rfl rfl (by omega)
   have ga:gTyatom (tyText (tTy t)).length (j+1) (((6,sOpen,0),q5)::(l'++((6,sClose,0),q6)::((6,sSemi,0),q7)::[((4,[],1),q8)]))=.ok t (((6,sSemi,0),q7)::[((4,[],1),q8)]):=by
    rw[gTyatom,if_neg (by simp[kdK]),if_neg (by simp[kdK]),need_hit,ok_bind,gt,ok_bind,need_hit]
    rfl
   have gf:gFields (tyText (tTy t)).length (j+2) [] (((6,sOpen,0),q5)::(l'++((6,sClose,0),q6)::((6,sSemi,0),q7)::[((4,[],1),q8)]))=.ok [t] (((6,sSemi,0),q7)::[((4,[],1),q8)]):=by
    rw[gFields,if_pos (by simp[tyNext,isK',kdK,txK]),ga,ok_bind,gFields,if_neg (by simp[tyNext,isK',kdK,txK,sSemi,sOpen])]
    rfl
   have gc:gCons (tyText (tTy t)).length (j+3) [] (((2,[67],0),q4)::((6,sOpen,0),q5)::(l'++((6,sClose,0),q6)::((6,sSemi,0),q7)::[((4,[],1),q8)]))=.ok [⟨[67],[t]⟩] (((6,sSemi,0),q7)::[((4,[],1),q8)]):=by
    rw[gCons,word_hit,ok_bind,gf,ok_bind,if_neg (by simp[isK',kdK,txK,sSemi,sBar])]
    rfl
   have gp:=rVs [[97]] [((3,[97],0),q2)] (((6,sEq,0),q3)::((2,[67],0),q4)::((6,sOpen,0),q5)::(l'++((6,sClose,0),q6)::((6,sSemi,0),q7)::[((4,[],1),q8)])) rfl rfl
   obtain⟨e',ge,_⟩:=(rEx (en:=(tyText (tTy t)).length) (j+2) (j+2) (Nat.le_refl _)).ex (.mk 2 [] [] 1 [] [] 0) [((4,[],1),q8)] [] (ex_int rfl) rfl est_nil (by simp only[List.length_cons,List.length_nil];omega)
   rw[List.append_nil] at ge
   refine⟨e',?_⟩
   rw[gProg,if_pos (by simp[isK',kdK,txK]),gDecl,need_hit,ok_bind,word_hit,ok_bind]
   rw[List.cons_append,List.nil_append] at gp
   rw[gp]
   simp only[need_hit,ok_bind,gc,List.nil_append]
   rw[gProg,if_neg (by simp[isK',kdK]),ge,ok_bind]
   all_goals rfl
  obtain⟨e',g⟩:=key (16*(l'.length+9)+8) (by omega)
  have g':gProg (tyText (tTy t)).length (16*(((5,kType,0),q0)::((1,[116],0),q1)::((3,[97],0),q2)::((6,sEq,0),q3)::((2,[67],0),q4)::((6,sOpen,0),q5)::(l'++((6,sClose,0),q6)::((6,sSemi,0),q7)::[((4,[],1),q8)])).length+9) [] (((5,kType,0),q0)::((1,[116],0),q1)::((3,[97],0),q2)::((6,sEq,0),q3)::((2,[67],0),q4)::((6,sOpen,0),q5)::(l'++((6,sClose,0),q6)::((6,sSemi,0),q7)::[((4,[],1),q8)]))=.ok ⟨[⟨[116],[[97]],[⟨[67],[t]⟩],q0⟩],e'⟩ []:=by
   rw[←g]
   congr 1
   all_goals (try simp only[List.length_cons,List.length_append,List.length_nil])
   all_goals (try omega)
  rw[parseAll_of e2 g']
  rcases limF_or (!flEx e') ⟨[⟨[116],[[97]],[⟨[67],[t]⟩],q0⟩],e'⟩ with h0|h0|h0
  ·left
   rw[if_pos h0]
   exact⟨_,_,rfl⟩
  ·right
   rw[if_neg (by rw[h0];decide)]
   exact⟨0,_,.inl h0,rfl⟩
  ·right
   rw[if_neg (by rw[h0];decide)]
   exact⟨0,_,.inr h0,rfl⟩
 ·obtain⟨p,e⟩:=hx.2 (by omega)
  right
  refine⟨p,3,.inl rfl,?_⟩
  unfold parseAll
  rw[e]
theorem showTypesLaw(x:Dat)(g:Glob)(hx:HasTy TT 28 x)(hb:StrB x)(Qf:OGP)(hQ:∀g',Qf (.val (.d (.bool true))) g'):EvF TT 4 [x] g Qf:=by
 have fin:∀g',EvF TT 10 [] g' (KQ Qf λv g'=>∃b,v=Val.d (Dat.bool b)∧Qf (Out.val (Val.d (Dat.bool b))) g'):=λg'=>wakes_ok g' _ ⟨_,rfl,hQ _⟩
 refine w4 hx ?_
 refine w9 hx (weighType_all _ _ g _ _ (Nat.lt_succ_self _) hx (by omega) (by omega) (by omega) (by omega) _ λr2 m0 m1 hr2=>⟨_,rfl,⟨_,rfl,Br_iff.2 ⟨λ_=>fin g,λhc=>?_⟩⟩⟩)
 have hr2:=hr2 (by have:=of_decide_eq_false hc;omega)
 have hpt:∀c,Pre (tyPg c (absTy x)):=λc=>tyPre hx hb (by omega) (by omega)
 refine copyType_ok hx λu hu eu=>⟨u,hu,rfl,?_⟩
 refine showType_ok hu (by rw[eu];exact hpt _) λg3=>⟨_,leLe (Nat.le_trans (shS_len _ _) (by omega)),_,⟨rfl,rfl,trivial⟩,?_⟩
 rw[eu]
 cases hk:rCheckP (tyPg [67] (absTy x)) with
 |false=>exact Br_of rfl (Br_no rfl (Br_of rfl (fin g3)))
 |true=>
  have ho:=tyPg_ok hk
  by_cases hl:(tTy (absTy x)).length≤8192
  ·have hS:shS true (tTy (absTy x))=tTy (absTy x):=by unfold shS;rw[Nat.ble_eq_true_of_le hl];rfl
   have hN:shN true (tTy (absTy x))=0:=by unfold shN;rw[Nat.ble_eq_true_of_le hl];rfl
   rw[hS,hN]
   refine Br_no rfl (Br_iff.2 ⟨λ_=>Br_of rfl (fin g3),λhsm=>?_⟩)
   have hsm:(tTy (absTy x)).length≤4000:=by have:=of_decide_eq_false hsm;omega
   have hT:(116::121::112::101::32::116::32::39::97::32::61::32::67::32::40::tTy (absTy x)++[41,59,32,49])=tyText (tTy (absTy x)):=rfl
   have hTl:(tyText (tTy (absTy x))).length=(tTy (absTy x)).length+19:=by rw[←hT];simp
   refine⟨leLe (by omega),leLe (by simp only[List.length_cons];omega),?_⟩
   rw[hT]
   refine pParse_ok (by omega) ?_
   rcases readTy ho (by omega) with ⟨p,e,he⟩|⟨p,e,h34,he⟩
   ·rw[he]
    intro d g' hd hty
    refine⟨d,hty,_,_,⟨rfl,rfl,rfl,trivial⟩,Br_no rfl ?_⟩
    obtain⟨d1,k1,s1,r1,n1,a1,b1,p1,rfl,hd1,he1⟩:=prog_ty hty
    have hds:(elsOf d1).map absDc=[⟨[116],[[97]],[⟨[67],[absTy x]⟩],p⟩]:=congrArg Pg.ds hd
    have f0:fld (.agg [d1,.int .i64 k1,.str s1,.str r1,.int .i64 n1,a1,b1,.int .i64 p1]) 0=d1:=rfl
    rw[f0]
    obtain⟨D,eD⟩:∃D,elsOf d1=[D]:=by
     cases hh:elsOf d1 with
     |nil=>rw[hh] at hds;cases hds
     |cons D l=>cases l with
      |nil=>exact⟨D,rfl⟩
      |cons _ _=>rw[hh] at hds;injection hds with _ h2;cases h2
    have tD:=(hd1.els undDecls).2 D (by rw[eD];simp)
    rw[eD] at hds⊢
    obtain⟨s2,a2,b2,p2,rfl,hs2,ha2,hb2⟩:=decl_ty tD
    have hcs:(elsOf b2).map absCn=[⟨[67],[absTy x]⟩]:=by
     injection hds with h1 _
     exact congrArg Dc.cs h1
    obtain⟨C,eC⟩:∃C,elsOf b2=[C]:=by
     cases hh:elsOf b2 with
     |nil=>rw[hh] at hcs;cases hcs
     |cons D l=>cases l with
      |nil=>exact⟨D,rfl⟩
      |cons _ _=>rw[hh] at hcs;injection hcs with _ h2;cases h2
    have tC:=(hb2.els undCons).2 C (by rw[eC];simp)
    have gD:getE [Dat.agg [.str s2,a2,b2,.int .i64 p2]] 0=.agg [.str s2,a2,b2,.int .i64 p2]:=rfl
    have f2:fld (.agg [.str s2,a2,b2,.int .i64 p2]) 2=b2:=rfl
    rw[gD,f2,eC]
    rw[eC] at hcs
    obtain⟨s3,f3,rfl,hs3,hf3⟩:=con_ty tC
    have hfs:(elsOf f3).map absTy=[absTy x]:=by
     injection hcs with h1 _
     have:=congrArg Cn.fs h1
     rw[←absTyA_map]
     exact this
    obtain⟨F,eF⟩:∃F,elsOf f3=[F]:=by
     cases hh:elsOf f3 with
     |nil=>rw[hh] at hfs;cases hfs
     |cons D l=>cases l with
      |nil=>exact⟨D,rfl⟩
      |cons _ _=>rw[hh] at hfs;injection hfs with _ h2;cases h2
    have tF:=(hf3.els undTypes).2 F (by rw[eF];simp)
    have gC:getE [Dat.agg [.str s3,f3]] 0=.agg [.str s3,f3]:=rfl
    have f1:fld (.agg [.str s3,f3]) 1=f3:=rfl
    rw[gC,f1,eF]
    rw[eF] at hfs
    have hFx:absTy F=absTy x:=by injection hfs
    have gF:getE [F] 0=F:=rfl
    rw[gF]
    have one:∀{y:Dat},HasTy TT 28 y→HasTy TT 26 (.sl 4 [y]):=λhy=>.sl _ _ _ _ undTypes szType (fitOne byType (by omega)) λz hz=>by simp only[List.mem_singleton] at hz;subst hz;exact hy
    refine Br_of rfl ⟨inB (i:=0) (by simp),Br_of rfl ⟨inB (i:=0) (by simp),inB (i:=0) (by simp),Br_of rfl ⟨inB (i:=0) (by simp),inB (i:=0) (by simp),inB (i:=0) (by simp),?_⟩⟩⟩
    refine w18 tF hx (sameTypes_ok _ _ _ g' (Nat.lt_succ_self _) (one tF) (one hx) _ ⟨_,rfl,⟨_,rfl,?_⟩⟩)
    have:eqTys (absTyA (.sl 4 [F])) (absTyA (.sl 4 [x]))=true:=by
     rw[absTyA_map,absTyA_map]
     show eqTys [absTy F] [absTy x]=true
     rw[hFx]
     exact eqTys_refl _
    rw[this]
    exact Br_of rfl (fin g')
   ·rw[he]
    intro g'
    refine⟨zPg,zPg_ty,_,_,⟨rfl,rfl,rfl,trivial⟩,?_⟩
    rcases h34 with rfl|rfl
    ·exact Br_of rfl (Br_of rfl (fin g'))
    ·exact Br_of rfl (Br_no rfl (Br_of rfl (fin g')))
  ·have hb:Nat.ble (tTy (absTy x)).length 8192=false:=Bool.eq_false_iff.2 λe=>hl (Nat.le_of_ble_eq_true e)
   have hS:shS true (tTy (absTy x))=[]:=by unfold shS;rw[hb];rfl
   have hN:shN true (tTy (absTy x))=2:=by unfold shN;rw[hb];rfl
   rw[hS,hN]
   exact Br_of rfl (Br_no rfl (Br_of rfl (fin g3)))
end Go.Proofs.YtmlghadphdpbjaaGreatDoor.Pa
