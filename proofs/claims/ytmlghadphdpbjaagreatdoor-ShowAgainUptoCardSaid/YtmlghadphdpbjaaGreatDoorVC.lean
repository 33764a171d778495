/- What functions of the program do, printed by wip/tools/sx/sx.py. Proved: what was written is read as the program that it was (the laws ShowBack, ShowAgain). -/
import Derived.Test.YtmlghadphdpbjaaGreatDoorVB
import Derived.Test.YtmlghadphdpbjaaGreatDoorSE
set_option linter.all false
set_option autoImplicit false
set_option maxRecDepth 100000
namespace Go.Proofs.YtmlghadphdpbjaaGreatDoor.Pa
open Go Go.Proofs.YtmlghadphdpbjaaGreatDoor.Am
def lo4:List CutI:=[]
theorem w4{x0:Dat}{g:Glob}{Qf:OGP}(h0:HasTy TT 28 x0)
 (h:EvF TT 9 [x0] g (KQ Qf λv g'=>∃b,v=.d (.bool b)∧Br b (EvF TT 10 [] g' (KQ Qf λv g'=>∃b,v=.d (.bool b)∧Qf (.val (.d (.bool b))) g')) (EvF TT 15 [x0] g' (KQ Qf λv g'=>∃x,HasTy TT 28 x∧v=.d x∧EvF TT 14 [x] g' (KQ Qf λv g'=>∃s,s.length.le 1099511627776∧∃n,RetT v [.str s,.int .i64 n]∧Br (n !=0) (Br (n==0) (EvF TT 10 [] g' (KQ Qf λv g'=>∃b,v=.d (.bool b)∧Qf (.val (.d (.bool b))) g')) (Br (s==[]) (EvF TT 10 [] g' (KQ Qf λv g'=>∃b,v=.d (.bool b)∧Qf (.val (.d (.bool b))) g')) (Qf (.val (.d (.bool false))) g'))) (Br (decide (4000<(↑s.length:Int))) (Br (n==0) (EvF TT 10 [] g' (KQ Qf λv g'=>∃b,v=.d (.bool b)∧Qf (.val (.d (.bool b))) g')) (Br (s==[]) (EvF TT 10 [] g' (KQ Qf λv g'=>∃b,v=.d (.bool b)∧Qf (.val (.d (.bool b))) g')) (Qf (.val (.d (.bool false))) g'))) ((15+s.length).le 1099511627776∧((116::121::112::101::32::116::32::39::97::32::61::32::67::32::40::s).length+4).le 1099511627776∧EvF TT 17 [.str (116::121::112::101::32::116::32::39::97::32::61::32::67::32::40::s++[41,59,32,49])] g' (KQ Qf λv g'=>∃x,HasTy TT 44 x∧∃n n_1,RetT v [x,.int .i64 n,.int .i64 n_1]∧Br (n_1 !=0) (Br (n_1==3) (EvF TT 10 [] g' (KQ Qf λv g'=>∃b,v=.d (.bool b)∧Qf (.val (.d (.bool b))) g')) (Br (n_1==4) (EvF TT 10 [] g' (KQ Qf λv g'=>∃b,v=.d (.bool b)∧Qf (.val (.d (.bool b))) g')) (Qf (.val (.d (.bool false))) g'))) (Br ((↑(elsOf (fld x 0)).length:Int)==1) (InB 0 (elsOf (fld x 0)).length∧Br ((↑(elsOf (fld (getE (elsOf (fld x 0)) 0) 2)).length:Int)==1) (InB 0 (elsOf (fld x 0)).length∧InB 0 (elsOf (fld (getE (elsOf (fld x 0)) 0) 2)).length∧Br ((↑(elsOf (fld (getE (elsOf (fld (getE (elsOf (fld x 0)) 0) 2)) 0) 1)).length:Int)==1) (InB 0 (elsOf (fld x 0)).length∧InB 0 (elsOf (fld (getE (elsOf (fld x 0)) 0) 2)).length∧InB 0 (elsOf (fld (getE (elsOf (fld (getE (elsOf (fld x 0)) 0) 2)) 0) 1)).length∧EvF TT 18 [getE (elsOf (fld (getE (elsOf (fld (getE (elsOf (fld x 0)) 0) 2)) 0) 1)) 0,x0] g' (KQ Qf λv g'=>∃b,v=.d (.bool b)∧Br b (EvF TT 10 [] g' (KQ Qf λv g'=>∃b,v=.d (.bool b)∧Qf (.val (.d (.bool b))) g')) (Qf (.val (.d (.bool false))) g'))) (Qf (.val (.d (.bool false))) g')) (Qf (.val (.d (.bool false))) g')) (Qf (.val (.d (.bool false))) g')))))))))):
 EvF TT 4 [x0] g Qf:=
 sx_fun (rk:=rk) (fn:=Tryz.f4) (loops:=lo4) (joins:=[]) (n:=100000) (args:=[(28,x0)]) rfl rfl rfl rfl ⟨h0,trivial⟩ (by kernel_rfl) h
def lo7:List CutI:=[]
theorem w7{s0:List UInt8}{g:Glob}{Qf:OGP}(h0:s0.length≤2^40)
 (h:Br (decide (20000<(↑s0.length:Int))) (EvF TT 10 [] g (KQ Qf λv g'=>∃b,v=.d (.bool b)∧Qf (.val (.d (.bool b))) g')) (EvF TT 17 [.str s0] g (KQ Qf λv g'=>∃x,HasTy TT 44 x∧∃n n_1,RetT v [x,.int .i64 n,.int .i64 n_1]∧Br (n_1 !=0) (EvF TT 23 [x,.agg [.nil,.int .i64 0,.str [],.str [],.int .i64 0,.nil,.nil,.int .i64 0],.bool true] g' (KQ Qf λv g'=>∃b,v=.d (.bool b)∧Br b (EvF TT 10 [] g' (KQ Qf λv g'=>∃b,v=.d (.bool b)∧Qf (.val (.d (.bool b))) g')) (Qf (.val (.d (.bool false))) g'))) (EvF TT 21 [x] g' (KQ Qf λv g'=>∃s,s.length.le 1099511627776∧∃n,RetT v [.str s,.int .i64 n]∧Br (n !=0) (Br (n==2) (Br (s==[]) (EvF TT 10 [] g' (KQ Qf λv g'=>∃b,v=.d (.bool b)∧Qf (.val (.d (.bool b))) g')) (Qf (.val (.d (.bool false))) g')) (Qf (.val (.d (.bool false))) g')) (EvF TT 17 [.str s] g' (KQ Qf λv g'=>∃x_1,HasTy TT 44 x_1∧∃n n_2,RetT v [x_1,.int .i64 n,.int .i64 n_2]∧Br (n_2 !=0) (Br (n_2==3) (Br (decide (4000<(↑s.length:Int))) (EvF TT 10 [] g' (KQ Qf λv g'=>∃b,v=.d (.bool b)∧Qf (.val (.d (.bool b))) g')) (Qf (.val (.d (.bool false))) g')) (Qf (.val (.d (.bool false))) g')) (EvF TT 21 [x_1] g' (KQ Qf λv g'=>∃s_1,s_1.length.le 1099511627776∧∃n,RetT v [.str s_1,.int .i64 n]∧Br (n==0) (Br (s_1==s) (EvF TT 23 [x,x_1,.bool false] g' (KQ Qf λv g'=>∃b,v=.d (.bool b)∧Br b (EvF TT 10 [] g' (KQ Qf λv g'=>∃b,v=.d (.bool b)∧Qf (.val (.d (.bool b))) g')) (Qf (.val (.d (.bool false))) g'))) (Qf (.val (.d (.bool false))) g')) (Qf (.val (.d (.bool false))) g')))))))))):
 EvF TT 7 [.str s0] g Qf:=
 sx_fun (rk:=rk) (fn:=Tryz.f7) (loops:=lo7) (joins:=[]) (n:=100000) (args:=[(9,.str s0)]) rfl rfl rfl rfl ⟨tyStr rfl h0,trivial⟩ (by kernel_rfl) h
end Go.Proofs.YtmlghadphdpbjaaGreatDoor.Pa
namespace Go.Proofs.YtmlghadphdpbjaaGreatDoor.Pa
open Go Go.Proofs.YtmlghadphdpbjaaGreatDoor.Am
theorem dcsW_all:∀{l l':List Dc},dcsW l l'→l'.length=l.length∧dpDcs l'=dpDcs l∧l'.any badDc=l.any badDc∧eqBy (eqDc false) l l'=true∧l'.all rDc=l.all rDc∧tDs l'=tDs l
 |[],[],_=>⟨rfl,rfl,rfl,rfl,rfl,rfl⟩
 |d::l,d'::l',h=>by
  obtain⟨⟨h1,h2,h3⟩,h⟩:=h
  obtain⟨i1,i2,i3,i4,i5,i6⟩:=dcsW_all h
  have hb:badDc d'=badDc d:=by unfold badDc;rw[h2,h3]
  have he:eqDc false d d'=true:=by
   unfold eqDc
   rw[h1,h2,h3,eqBy_refl (λx=>by simp),eqBy_refl eqCn_refl]
   simp
  have hr:rDc d'=rDc d:=by unfold rDc okDc;rw[hb,h1,h2,h3]
  have ht:tDc d'=tDc d:=by unfold tDc;rw[h1,h2,h3]
  exact⟨by simp[i1],by simp only[dpDcs,h3,i2],by simp only[List.any_cons,hb,i3],by simp only[eqBy,he,i4];rfl,by simp only[List.all_cons,hr,i5],by simp only[tDs,ht,i6]⟩
theorem limW{P Q:Pg}(hd:dcsW P.ds Q.ds)(he:exW PT P.e Q.e):limF (!flEx Q.e) Q=limF (!flEx P.e) P:=by
 obtain⟨i1,i2,i3,_⟩:=dcsW_all hd
 obtain⟨j1,j2,j3,_⟩:=exW_same he
 unfold limF
 rw[i1,i2,i3,j1,j2,j3]
theorem eqPgW{P Q:Pg}(hd:dcsW P.ds Q.ds)(he:exW PT P.e Q.e):eqPg false P Q=true:=by
 unfold eqPg
 rw[(dcsW_all hd).2.2.2.1,(exW_same he).2.2.2.1]
 rfl
theorem readPg{P:Pg}(h:rCheckP P=true)(hl:(tPg P).length≤8192):(∃Q,parseAll (tPg P)=.ok Q∧dcsW P.ds Q.ds∧exW PT P.e Q.e)∨(4000<(tPg P).length∧∃p,parseAll (tPg P)=.err p 3):=by
 unfold rCheckP at h
 simp only[Bool.and_eq_true,Bool.not_eq_true',List.all_eq_true] at h
 obtain⟨h1,h2,h3,h4,h5⟩:=h
 have hw:∀d∈P.ds,DcW d:=λd hd=>dcW_of (h3 d hd)
 rcases lexPg hw h5 hl with ⟨l,e1,e2⟩|⟨e1,p,e2⟩
 ·left
  obtain⟨l1,l2,rfl,i1,i2⟩:=is_app (l:=l) e1
  rw[List.append_nil] at i2
  obtain⟨ds',e',g,w1,w2⟩:=rDs (en:=(tPg P).length) (16*(l1++l2).length+9) P.ds [] P.e l1 l2 (λd hd=>⟨λc hc=>((hw d hd).cs c hc).2,(hw d hd).ne⟩) h5 i1 i2 (by rw[List.length_append];omega)
  rw[List.nil_append] at g
  refine⟨⟨ds',e'⟩,?_,w1,w2⟩
  rw[parseAll_of e2 g]
  have:=limW (P:=P) (Q:=⟨ds',e'⟩) w1 w2
  rw[this,if_pos (by simpa using h4)]
 ·right
  refine⟨e1,p,?_⟩
  unfold parseAll
  rw[e2]
theorem noExW{x y:Ex'}(h:exW PT x y):kEx y=kEx x∧noEx y=noEx x:=by
 obtain⟨k,s,r,n,a,b,p⟩:=x
 obtain⟨k',s',r',n',a',b',p'⟩:=y
 simp only[exW] at h
 obtain⟨rfl,rfl,rfl,rfl,ha,hb,_⟩:=h
 refine⟨rfl,?_⟩
 cases a<;>cases a'<;>first|rfl|exact ha.elim
mutual
theorem tPtW:∀{x y:Pt},ptW PT x y→tPt y=tPt x∧noPt y=noPt x
 |.mk k s n a p,.mk k' s' n' a' p',h=>by
  simp only[ptW] at h
  obtain⟨rfl,rfl,rfl,ha,_⟩:=h
  refine⟨by unfold tPt;rw[tPsW ha],?_⟩
  cases a<;>cases a'<;>first|rfl|exact ha.elim
theorem tPsW:∀{x y:List Pt},ptsW PT x y→tPs y=tPs x
 |[],[],_=>rfl
 |x::l,y::m,h=>by
  simp only[ptsW] at h
  obtain⟨i1,i2⟩:=tPtW h.1
  unfold tPs
  rw[i1,i2,tPsW h.2]
end
structure TW(a a':List Ex'):Prop where
 e0:tE0 a'=tE0 a
 in':tIn a'=tIn a
 a0:tA0 a'=tA0 a
 h0:tH0 a'=tH0 a
 pr:∀s,tPr s a'=tPr s a
 as':tAs a'=tAs a
 ca:∀b b',ptsW PT b b'→tCa b' a'=tCa b a
 br:∀hd b b',ptsW PT b b'→tBr hd b' a'=tBr hd b a
mutual
theorem tExW:∀{x y:Ex'},exW PT x y→tEx y=tEx x
 |.mk k s r n a b p,.mk k' s' r' n' a' b' p',h=>by
  simp only[exW] at h
  obtain⟨rfl,rfl,rfl,rfl,ha,hb,_⟩:=h
  have i:=tExsW ha
  unfold tEx
  rw[i.e0,i.in',i.a0,i.h0,i.pr,i.as',i.ca _ _ hb]
theorem tExsW:∀{x y:List Ex'},exsW PT x y→TW x y
 |[],[],_=>⟨rfl,rfl,rfl,rfl,λ_=>rfl,rfl,λ_ _ _=>rfl,λhd b b' h=>by cases b<;>cases b'<;>first|rfl|exact h.elim⟩
 |x::l,y::m,h=>by
  simp only[exsW] at h
  have i:=tExW h.1
  have j:=tExsW h.2
  obtain⟨k1,k2⟩:=noExW h.1
  have ka:atomK y=atomK x:=by unfold atomK;rw[k1,k2]
  have hbr:∀hd b b',ptsW PT b b'→tBr hd b' (y::m)=tBr hd b (x::l):=λhd b b' h=>by
   cases b with
   |nil=>cases b' with
    |nil=>unfold tBr;rfl
    |cons _ _=>exact h.elim
   |cons q b=>cases b' with
    |nil=>exact h.elim
    |cons q' b'=>
     simp only[ptsW] at h
     unfold tBr
     rw[(tPtW h.1).1,i,k1,j.br _ _ _ h.2]
  exact⟨by unfold tE0;exact i,by unfold tIn;rw[i,j.e0],by unfold tA0;rw[i,ka],by unfold tH0;rw[i,k1,ka,j.a0],λs=>by unfold tPr;rw[i,ka,j.a0],by unfold tAs;rw[i,ka,j.as'],λb b' h=>by unfold tCa;rw[i,j.br _ _ _ h],hbr⟩
end
theorem tPgW{P Q:Pg}(hd:dcsW P.ds Q.ds)(he:exW PT P.e Q.e):tPg Q=tPg P:=by
 unfold tPg
 rw[(dcsW_all hd).2.2.2.2.2,tExW he]
theorem showAgainLaw(x:Dat)(g:Glob)(hx:HasTy TT 9 x)(hb:StrB x)(Qf:OGP)(hQ:∀g',Qf (.val (.d (.bool true))) g'):EvF TT 7 [x] g Qf:=by
 have fin:∀g',EvF TT 10 [] g' (KQ Qf λv g'=>∃b,v=Val.d (Dat.bool b)∧Qf (Out.val (Val.d (Dat.bool b))) g'):=λg'=>wakes_ok g' _ ⟨_,rfl,hQ _⟩
 obtain⟨s,rfl,hs⟩:=str_ty hx
 refine w7 hs (Br_iff.2 ⟨λ_=>fin g,λ_=>pParse_ok hs ?_⟩)
 cases hp:parseAll s with
 |err p e=>
  intro g'
  refine⟨zPg,zPg_ty,_,_,⟨rfl,rfl,rfl,trivial⟩,Br_of (by simpa[bne] using parseAll_ne hp) (refSame_ok true zPg zPg g' zPg_ty zPg_ty _ ⟨_,rfl,?_⟩)⟩
  rw[eqPg_refl]
  exact Br_of rfl (fin g')
 |ok v=>
  intro d g' hd ht
  obtain⟨hok,h0⟩:=parseAll_ok hp
  have hc:rCheckP v=true:=by rw[←checkP_eq];exact hok.check h0
  refine⟨d,ht,_,_,⟨rfl,rfl,rfl,trivial⟩,Br_no rfl (showProgram_ok ht (by rw[hd];exact hok.pre) λg1=>⟨_,leLe (Nat.le_trans (shS_len _ _) (by omega)),_,⟨rfl,rfl,trivial⟩,?_⟩)⟩
  rw[hd,hc]
  by_cases hl:(tPg v).length≤8192
  ·have hS:shS true (tPg v)=tPg v:=by unfold shS;rw[Nat.ble_eq_true_of_le hl];rfl
   have hN:shN true (tPg v)=0:=by unfold shN;rw[Nat.ble_eq_true_of_le hl];rfl
   rw[hS,hN]
   refine Br_no rfl (pParse_ok (by omega) ?_)
   rcases readPg hc hl with ⟨Q,e,w1,w2⟩|⟨e1,p,e⟩
   ·rw[e]
    intro d2 g2 hd2 hty
    obtain⟨hok2,h02⟩:=parseAll_ok e
    have hc2:rCheckP Q=true:=by rw[←checkP_eq];exact hok2.check h02
    refine⟨d2,hty,_,_,⟨rfl,rfl,rfl,trivial⟩,Br_no rfl (showProgram_ok hty (by rw[hd2];exact hok2.pre) λg3=>⟨_,leLe (Nat.le_trans (shS_len _ _) (by omega)),_,⟨rfl,rfl,trivial⟩,?_⟩)⟩
    rw[hd2,hc2,tPgW w1 w2,hS,hN]
    refine Br_of rfl (Br_of (beq_self_eq_true _) (refSame_ok false d d2 g3 ht hty _ ⟨_,rfl,?_⟩))
    rw[hd,hd2,eqPgW w1 w2]
    exact Br_of rfl (fin g3)
   ·rw[e]
    intro g2
    exact⟨zPg,zPg_ty,_,_,⟨rfl,rfl,rfl,trivial⟩,Br_of rfl (Br_of rfl (Br_of (decide_eq_true (by omega)) (fin g2)))⟩
  ·have hb:Nat.ble (tPg v).length 8192=false:=Bool.eq_false_iff.2 λe=>hl (Nat.le_of_ble_eq_true e)
   have hS:shS true (tPg v)=[]:=by unfold shS;rw[hb];rfl
   have hN:shN true (tPg v)=2:=by unfold shN;rw[hb];rfl
   rw[hS,hN]
   exact Br_of rfl (Br_of rfl (Br_of rfl (fin g1)))
end Go.Proofs.YtmlghadphdpbjaaGreatDoor.Pa
