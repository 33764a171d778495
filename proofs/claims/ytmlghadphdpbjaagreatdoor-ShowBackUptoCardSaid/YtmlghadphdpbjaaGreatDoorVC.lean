/- What functions of the program do, printed by wip/tools/sx/sx.py. Proved: what was written is read as the program that it was (the laws ShowBack, ShowAgain). -/
import Derived.Test.YtmlghadphdpbjaaGreatDoorVB
import Derived.Test.YtmlghadphdpbjaaGreatDoorSE
set_option linter.all false
set_option autoImplicit false
set_option maxRecDepth 100000
namespace Go.Proofs.YtmlghadphdpbjaaGreatDoor.Pa
open Go Go.Proofs.YtmlghadphdpbjaaGreatDoor.Am
def lo4:List CutI:=[]
theorem w4{x0:Dat}{g:Glob}{Qf:OGP}(h0:HasTy TT 28 x0)
 (h:EvF TT 9 [x0] g (KQ Qf λv g'=>∃b,v=.d (.bool b)∧Br b (EvF TT 10 [] g' (KQ Qf λv g'=>∃b,v=.d (.bool b)∧Qf (.val (.d (.bool b))) g')) (EvF TT 15 [x0] g' (KQ Qf λv g'=>∃x,HasTy TT 28 x∧v=.d x∧EvF TT 14 [x] g' (KQ Qf λv g'=>∃s,s.length.le 1099511627776∧∃n,RetT v [.str s,.int .i64 n]∧Br (n !=0) (Br (n==0) (EvF TT 10 [] g' (KQ Qf λv g'=>∃b,v=.d (.bool b)∧Qf (.val (.d (.bool b))) g')) (Br (s==[]) (EvF TT 10 [] g' (KQ Qf λv g'=>∃b,v=.d (.bool b)∧Qf (.val (.d (.bool b))) g')) (Qf (.val (.d (.bool false))) g'))) (Br (decide (4000<(↑s.length:Int))) (Br (n==0) (EvF TT 10 [] g' (KQ Qf λv g'=>∃b,v=.d (.bool b)∧Qf (.val (.d (.bool b))) g')) (Br (s==[]) (EvF TT 10 [] g' (KQ Qf λv g'=>∃b,v=.d (.bool b)∧Qf (.val (.d (.bool b))) g')) (Qf (.val (.d (.bool false))) g'))) ((15+s.length).le 1099511627776∧((116::121::112::101::32::116::32::39::97::32::61::32::67::32::40::s).length+4).le 1099511627776∧EvF TT 17 [.str (116::121::112::101::32::116::32::39::97::32::61::32::67::32::40::s++[41,59,32,49])] g' (KQ Qf λv g'=>∃x,HasTy TT 44 x∧∃n n_1,RetT v [x,.int .i64 n,.int .i64 n_1]∧Br (n_1 !=0) (Br (n_1==3) (EvF TT 10 [] g' (KQ Qf λv g'=>∃b,v=.d (.bool b)∧Qf (.val (.d (.bool b))) g')) (Br (n_1==4) (EvF TT 10 [] g' (KQ Qf λv g'=>∃b,v=.d (.bool b)∧Qf (.val (.d (.bool b))) g')) (Qf (.val (.d (.bool false))) g'))) (Br ((↑(elsOf (fld x 0)).length:Int)==1) (InB 0 (elsOf (fld x 0)).length∧Br ((↑(elsOf (fld (getE (elsOf (fld x 0)) 0) 2)).length:Int)==1) (InB 0 (elsOf (fld x 0)).length∧InB 0 (elsOf (fld (getE (elsOf (fld x 0)) 0) 2)).length∧Br ((↑(elsOf (fld (getE (elsOf (fld (getE (elsOf (fld x 0)) 0) 2)) 0) 1)).length:Int)==1) (InB 0 (elsOf (fld x 0)).length∧InB 0 (elsOf (fld (getE (elsOf (fld x 0)) 0) 2)).length∧InB 0 (elsOf (fld (getE (elsOf (fld (getE (elsOf (fld x 0)) 0) 2)) 0) 1)).length∧EvF TT 18 [getE (elsOf (fld (getE (elsOf (fld (getE (elsOf (fld x 0)) 0) 2)) 0) 1)) 0,x0] g' (KQ Qf λv g'=>∃b,v=.d (.bool b)∧Br b (EvF TT 10 [] g' (KQ Qf λv g'=>∃b,v=.d (.bool b)∧Qf (.val (.d (.bool b))) g')) (Qf (.val (.d (.bool false))) g'))) (Qf (.val (.d (.bool false))) g')) (Qf (.val (.d (.bool false))) g')) (Qf (.val (.d (.bool false))) g')))))))))):
 EvF TT 4 [x0] g Qf:=
 sx_fun (rk:=rk) (fn:=Tryz.f4) (loops:=lo4) (joins:=[]) (n:=100000) (args:=[(28,x0)]) rfl rfl rfl rfl ⟨h0,trivial⟩ (by kernel_rfl) h
def lo6:List CutI:=[]
theorem w6{x0:Dat}{g:Glob}{Qf:OGP}(h0:HasTy TT 44 x0)
 (h:EvF TT 19 [x0] g (KQ Qf λv g'=>∃b,v=.d (.bool b)∧Br b (EvF TT 10 [] g' (KQ Qf λv g'=>∃b,v=.d (.bool b)∧Qf (.val (.d (.bool b))) g')) (EvF TT 20 [x0] g' (KQ Qf λv g'=>∃x,HasTy TT 44 x∧v=.d x∧EvF TT 21 [x] g' (KQ Qf λv g'=>∃s,s.length.le 1099511627776∧∃n,RetT v [.str s,.int .i64 n]∧Br (n !=0) (Br (s==[]) (EvF TT 10 [] g' (KQ Qf λv g'=>∃b,v=.d (.bool b)∧Qf (.val (.d (.bool b))) g')) (Qf (.val (.d (.bool false))) g')) (EvF TT 17 [.str s] g' (KQ Qf λv g'=>∃x,HasTy TT 44 x∧∃n n_1,RetT v [x,.int .i64 n,.int .i64 n_1]∧Br (n_1==0) (EvF TT 23 [x0,x,.bool false] g' (KQ Qf λv g'=>∃b,v=.d (.bool b)∧Br b (EvF TT 10 [] g' (KQ Qf λv g'=>∃b,v=.d (.bool b)∧Qf (.val (.d (.bool b))) g')) (Br (n_1==3) (Br (decide (4000<(↑s.length:Int))) (EvF TT 10 [] g' (KQ Qf λv g'=>∃b,v=.d (.bool b)∧Qf (.val (.d (.bool b))) g')) (Qf (.val (.d (.bool false))) g')) (Qf (.val (.d (.bool false))) g')))) (Br (n_1==3) (Br (decide (4000<(↑s.length:Int))) (EvF TT 10 [] g' (KQ Qf λv g'=>∃b,v=.d (.bool b)∧Qf (.val (.d (.bool b))) g')) (Qf (.val (.d (.bool false))) g')) (Qf (.val (.d (.bool false))) g'))))))))):
 EvF TT 6 [x0] g Qf:=
 sx_fun (rk:=rk) (fn:=Tryz.f6) (loops:=lo6) (joins:=[]) (n:=100000) (args:=[(44,x0)]) rfl rfl rfl rfl ⟨h0,trivial⟩ (by kernel_rfl) h
end Go.Proofs.YtmlghadphdpbjaaGreatDoor.Pa
namespace Go.Proofs.YtmlghadphdpbjaaGreatDoor.Pa
open Go Go.Proofs.YtmlghadphdpbjaaGreatDoor.Am
theorem dcsW_all:∀{l l':List Dc},dcsW l l'→l'.length=l.length∧dpDcs l'=dpDcs l∧l'.any badDc=l.any badDc∧eqBy (eqDc false) l l'=true∧l'.all rDc=l.all rDc∧tDs l'=tDs l
 |[],[],_=>⟨rfl,rfl,rfl,rfl,rfl,rfl⟩
 |d::l,d'::l',h=>by
  obtain⟨⟨h1,h2,h3⟩,h⟩:=h
  obtain⟨i1,i2,i3,i4,i5,i6⟩:=dcsW_all h
  have hb:badDc d'=badDc d:=by unfold badDc;rw[h2,h3]
  have he:eqDc false d d'=true:=by
   unfold eqDc
   rw[h1,h2,h3,eqBy_refl (λx=>by simp),eqBy_refl eqCn_refl]
   simp
  have hr:rDc d'=rDc d:=by unfold rDc okDc;rw[hb,h1,h2,h3]
  have ht:tDc d'=tDc d:=by unfold tDc;rw[h1,h2,h3]
  exact⟨by simp[i1],by simp only[dpDcs,h3,i2],by simp only[List.any_cons,hb,i3],by simp only[eqBy,he,i4];rfl,by simp only[List.all_cons,hr,i5],by simp only[tDs,ht,i6]⟩
theorem limW{P Q:Pg}(hd:dcsW P.ds Q.ds)(he:exW PT P.e Q.e):limF (!flEx Q.e) Q=limF (!flEx P.e) P:=by
 obtain⟨i1,i2,i3,_⟩:=dcsW_all hd
 obtain⟨j1,j2,j3,_⟩:=exW_same he
 unfold limF
 rw[i1,i2,i3,j1,j2,j3]
theorem eqPgW{P Q:Pg}(hd:dcsW P.ds Q.ds)(he:exW PT P.e Q.e):eqPg false P Q=true:=by
 unfold eqPg
 rw[(dcsW_all hd).2.2.2.1,(exW_same he).2.2.2.1]
 rfl
theorem readPg{P:Pg}(h:rCheckP P=true)(hl:(tPg P).length≤8192):(∃Q,parseAll (tPg P)=.ok Q∧dcsW P.ds Q.ds∧exW PT P.e Q.e)∨(4000<(tPg P).length∧∃p,parseAll (tPg P)=.err p 3):=by
 unfold rCheckP at h
 simp only[Bool.and_eq_true,Bool.not_eq_true',List.all_eq_true] at h
 obtain⟨h1,h2,h3,h4,h5⟩:=h
 have hw:∀d∈P.ds,DcW d:=λd hd=>dcW_of (h3 d hd)
 rcases lexPg hw h5 hl with ⟨l,e1,e2⟩|⟨e1,p,e2⟩
 ·left
  obtain⟨l1,l2,rfl,i1,i2⟩:=is_app (l:=l) e1
  rw[List.append_nil] at i2
  obtain⟨ds',e',g,w1,w2⟩:=rDs (en:=(tPg P).length) (16*(l1++l2).length+9) P.ds [] P.e l1 l2 (λd hd=>⟨λc hc=>((hw d hd).cs c hc).2,(hw d hd).ne⟩) h5 i1 i2 (by rw[List.length_append];omega)
  rw[List.nil_append] at g
  refine⟨⟨ds',e'⟩,?_,w1,w2⟩
  rw[parseAll_of e2 g]
  have:=limW (P:=P) (Q:=⟨ds',e'⟩) w1 w2
  rw[this,if_pos (by simpa using h4)]
 ·right
  refine⟨e1,p,?_⟩
  unfold parseAll
  rw[e2]
theorem showBackLaw(x:Dat)(g:Glob)(hx:HasTy TT 44 x)(hb:StrB x)(Qf:OGP)(hQ:∀g',Qf (.val (.d (.bool true))) g'):EvF TT 6 [x] g Qf:=by
 have fin:∀g',EvF TT 10 [] g' (KQ Qf λv g'=>∃b,v=Val.d (Dat.bool b)∧Qf (Out.val (Val.d (Dat.bool b))) g'):=λg'=>wakes_ok g' _ ⟨_,rfl,hQ _⟩
 refine w6 hx ?_
 refine large_all x g hx _ ⟨_,rfl,fin g⟩ λh1 h2 h3=>⟨_,rfl,?_⟩
 have hp:=pre_of hx hb h1 h2 h3
 refine copy_ok x g hx _ λa ha ea=>⟨a,ha,rfl,?_⟩
 refine showProgram_ok ha (by rw[ea];exact hp) λg1=>⟨_,leLe (Nat.le_trans (shS_len _ _) (by omega)),_,⟨rfl,rfl,trivial⟩,?_⟩
 rw[ea]
 cases hc:rCheckP (absPg x) with
 |false=>exact Br_of rfl (Br_of rfl (fin g1))
 |true=>
  by_cases hl:(tPg (absPg x)).length≤8192
  ·have hS:shS true (tPg (absPg x))=tPg (absPg x):=by unfold shS;rw[Nat.ble_eq_true_of_le hl];rfl
   have hN:shN true (tPg (absPg x))=0:=by unfold shN;rw[Nat.ble_eq_true_of_le hl];rfl
   rw[hS,hN]
   refine Br_no rfl (pParse_ok (by omega) ?_)
   rcases readPg hc hl with ⟨Q,e,w1,w2⟩|⟨e1,p,e⟩
   ·rw[e]
    intro d g' hd hty
    refine⟨d,hty,_,_,⟨rfl,rfl,rfl,trivial⟩,Br_of rfl (refSame_ok false x d g' hx hty _ ⟨_,rfl,?_⟩)⟩
    rw[hd,eqPgW w1 w2]
    exact Br_of rfl (fin g')
   ·rw[e]
    intro g'
    exact⟨zPg,zPg_ty,_,_,⟨rfl,rfl,rfl,trivial⟩,Br_no rfl (Br_of rfl (Br_of (decide_eq_true (by omega)) (fin g')))⟩
  ·have hb:Nat.ble (tPg (absPg x)).length 8192=false:=Bool.eq_false_iff.2 λe=>hl (Nat.le_of_ble_eq_true e)
   have hS:shS true (tPg (absPg x))=[]:=by unfold shS;rw[hb];rfl
   have hN:shN true (tPg (absPg x))=2:=by unfold shN;rw[hb];rfl
   rw[hS,hN]
   exact Br_of rfl (Br_of rfl (fin g1))
end Go.Proofs.YtmlghadphdpbjaaGreatDoor.Pa
