/- What functions of the program do, printed by wip/tools/sx/sx.py. The document's comparisons of trees. What functions of the program do, printed by wip/tools/sx/sx.py. The document's comparison of programs; the program's own. The program's own comparison of programs. What functions of the program do, printed by wip/tools/sx/sx.py. The document's copies; what is too large. Nothing of this layer is asked in this seat. The law ParseSame told: it answers true. -/
import Derived.Test.YtiheejdkkjfenaaGreatDoorRC
set_option linter.all false
set_option autoImplicit false
set_option maxRecDepth 100000
namespace Go.Proofs.YtiheejdkkjfenaaGreatDoor.Pa
open Go Go.Proofs.YtiheejdkkjfenaaGreatDoor.Am
variable{x0 x1 y8 y9:Dat}{g:Glob}{Qf:OGP}{n10 n11 n5 n7:Int}{b2:Bool}
def L69_4(x0 x1:Dat)(n5:Int)(g:Glob)(Qf:OGP):=LC 69 Tryz.f69 [1,1,0,1,0] Qf 2 [(0,.v 59 (x0)),(1,.v 59 (x1)),(5,iv n5)] [] g
def lo69:List CuI:=[⟨4,[K 0,K 1,K 5],[]⟩]
theorem w69(h0:Ha TT 59 x0)(h1:Ha TT 59 x1)
 (h:Br (((elO x0).length:Int)!=((elO x1).length:Int)) (Qf (.val (.d (.bool false))) g) (L69_4 x0 x1 0 g Qf)):
 EvF TT 69 [x0,x1] g Qf:=
 sF Tryz.f69 lo69 [(59,x0),(59,x1)] ⟨h0,h1,trivial⟩ h
theorem w69_4
 (h:Br (decide (n5<((elO x0).length:Int))) (InB n5 (elO x0).length∧InB n5 (elO x1).length∧Br (intOf (fld (gtE (elO x0) n5) 0)!=intOf (fld (gtE (elO x1) n5) 0)) (Qf (.val (.d (.bool false))) g) (InB n5 (elO x0).length∧InB n5 (elO x1).length∧Br (!strOf (fld (gtE (elO x0) n5) 1)==strOf (fld (gtE (elO x1) n5) 1)) (Qf (.val (.d (.bool false))) g) (InB n5 (elO x0).length∧InB n5 (elO x1).length∧Br (intOf (fld (gtE (elO x0) n5) 2)!=intOf (fld (gtE (elO x1) n5) 2)) (Qf (.val (.d (.bool false))) g) (InB n5 (elO x0).length∧InB n5 (elO x1).length∧EvF TT 69 [fld (gtE (elO x0) n5) 3,fld (gtE (elO x1) n5) 3] g (KQ Qf λv g'=>∃b,v=.d (.bool b)∧Br (!b) (Qf (.val (.d (.bool false))) g') (L69_4 x0 x1 (IntKind.i64.wrap (n5+1)) g' Qf)))))) (Qf (.val (.d (.bool true))) g)):
 L69_4 x0 x1 n5 g Qf:=sC lo69 h
def L70_4(x0 x1:Dat)(b2:Bool)(n7:Int)(g:Glob)(Qf:OGP):=LC 70 Tryz.f70 [1,1,0,1,0] Qf 3 [(0,.v 24 (x0)),(1,.v 24 (x1)),(2,.v 4 (.bool b2)),(7,iv n7)] [] g
def lo70:List CuI:=[⟨4,[K 0,K 1,K 2,K 7],[]⟩]
theorem w70(h0:Ha TT 24 x0)(h1:Ha TT 24 x1)
 (h:Br (((elO x0).length:Int)!=((elO x1).length:Int)) (Qf (.val (.d (.bool false))) g) (L70_4 x0 x1 b2 0 g Qf)):
 EvF TT 70 [x0,x1,.bool b2] g Qf:=
 sF Tryz.f70 lo70 [(24,x0),(24,x1),(4,.bool b2)] ⟨h0,h1,tyl rfl,trivial⟩ h
theorem w70_4
 (h:Br (decide (n7<((elO x0).length:Int))) (InB n7 (elO x0).length∧InB n7 (elO x1).length∧Br (intOf (fld (gtE (elO x0) n7) 0)!=intOf (fld (gtE (elO x1) n7) 0)) (Qf (.val (.d (.bool false))) g) (Br (!strOf (fld (gtE (elO x0) n7) 1)==strOf (fld (gtE (elO x1) n7) 1)) (Qf (.val (.d (.bool false))) g) (Br (intOf (fld (gtE (elO x0) n7) 2)!=intOf (fld (gtE (elO x1) n7) 2)) (Qf (.val (.d (.bool false))) g) (Br b2 (Br (intOf (fld (gtE (elO x0) n7) 4)!=intOf (fld (gtE (elO x1) n7) 4)) (Qf (.val (.d (.bool false))) g) (EvF TT 70 [fld (gtE (elO x0) n7) 3,fld (gtE (elO x1) n7) 3,.bool b2] g (KQ Qf λv g'=>∃b,v=.d (.bool b)∧Br (!b) (Qf (.val (.d (.bool false))) g') (L70_4 x0 x1 b2 (IntKind.i64.wrap (n7+1)) g' Qf)))) (EvF TT 70 [fld (gtE (elO x0) n7) 3,fld (gtE (elO x1) n7) 3,.bool b2] g (KQ Qf λv g'=>∃b,v=.d (.bool b)∧Br (!b) (Qf (.val (.d (.bool false))) g') (L70_4 x0 x1 b2 (IntKind.i64.wrap (n7+1)) g' Qf))))))) (Qf (.val (.d (.bool true))) g)):
 L70_4 x0 x1 b2 n7 g Qf:=sC lo70 h
def L40_4(x0 x1:Dat)(b2:Bool)(n7:Int)(g:Glob)(Qf:OGP):=LC 40 Tryz.f40 [1,1,0,1,0] Qf 3 [(0,.v 23 (x0)),(1,.v 23 (x1)),(2,.v 4 (.bool b2)),(7,iv n7)] [] g
def lo40:List CuI:=[⟨4,[K 0,K 1,K 2,K 7],[]⟩]
theorem w40(h0:Ha TT 23 x0)(h1:Ha TT 23 x1)
 (h:Br (((elO x0).length:Int)!=((elO x1).length:Int)) (Qf (.val (.d (.bool false))) g) (L40_4 x0 x1 b2 0 g Qf)):
 EvF TT 40 [x0,x1,.bool b2] g Qf:=
 sF Tryz.f40 lo40 [(23,x0),(23,x1),(4,.bool b2)] ⟨h0,h1,tyl rfl,trivial⟩ h
theorem w40_4
 (h:Br (decide (n7<((elO x0).length:Int))) (InB n7 (elO x0).length∧InB n7 (elO x1).length∧Br (intOf (fld (gtE (elO x0) n7) 0)!=intOf (fld (gtE (elO x1) n7) 0)) (Qf (.val (.d (.bool false))) g) (Br (!strOf (fld (gtE (elO x0) n7) 1)==strOf (fld (gtE (elO x1) n7) 1)) (Qf (.val (.d (.bool false))) g) (Br (!strOf (fld (gtE (elO x0) n7) 2)==strOf (fld (gtE (elO x1) n7) 2)) (Qf (.val (.d (.bool false))) g) (Br (intOf (fld (gtE (elO x0) n7) 3)!=intOf (fld (gtE (elO x1) n7) 3)) (Qf (.val (.d (.bool false))) g) (Br b2 (Br (intOf (fld (gtE (elO x0) n7) 6)!=intOf (fld (gtE (elO x1) n7) 6)) (Qf (.val (.d (.bool false))) g) (EvF TT 70 [fld (gtE (elO x0) n7) 5,fld (gtE (elO x1) n7) 5,.bool b2] g (KQ Qf λv g'=>∃b,v=.d (.bool b)∧Br (!b) (Qf (.val (.d (.bool false))) g') (EvF TT 40 [fld (gtE (elO x0) n7) 4,fld (gtE (elO x1) n7) 4,.bool b2] g' (KQ Qf λv g'=>∃b,v=.d (.bool b)∧Br (!b) (Qf (.val (.d (.bool false))) g') (L40_4 x0 x1 b2 (IntKind.i64.wrap (n7+1)) g' Qf)))))) (EvF TT 70 [fld (gtE (elO x0) n7) 5,fld (gtE (elO x1) n7) 5,.bool b2] g (KQ Qf λv g'=>∃b,v=.d (.bool b)∧Br (!b) (Qf (.val (.d (.bool false))) g') (EvF TT 40 [fld (gtE (elO x0) n7) 4,fld (gtE (elO x1) n7) 4,.bool b2] g' (KQ Qf λv g'=>∃b,v=.d (.bool b)∧Br (!b) (Qf (.val (.d (.bool false))) g') (L40_4 x0 x1 b2 (IntKind.i64.wrap (n7+1)) g' Qf)))))))))) (Qf (.val (.d (.bool true))) g)):
 L40_4 x0 x1 b2 n7 g Qf:=sC lo40 h
def L39_4(x0 x1:Dat)(b2:Bool)(n7:Int)(g:Glob)(Qf:OGP):=LC 39 Tryz.f39 [1,1,0,1,0] Qf 3 [(0,.v 22 (x0)),(1,.v 22 (x1)),(2,.v 4 (.bool b2)),(7,iv n7)] [] g
def L39_10(x0 x1:Dat)(b2:Bool)(n7 n10:Int)(y9 y8:Dat)(g:Glob)(Qf:OGP):=LC 39 Tryz.f39 [1,1,0,1,0,0,1,0,0,1,1,0,1,0] Qf 3 [(0,.v 22 (x0)),(1,.v 22 (x1)),(2,.v 4 (.bool b2)),(7,iv n7),(8,.loc 8 0 0),(9,.loc 9 0 0),(10,iv n10)] [(9,.whole 84 y9),(8,.whole 84 y8)] g
def L39_15(x0 x1:Dat)(b2:Bool)(n7 n11:Int)(y9 y8:Dat)(g:Glob)(Qf:OGP):=LC 39 Tryz.f39 [1,1,0,1,0,0,1,0,0,1,1,1,1,0] Qf 3 [(0,.v 22 (x0)),(1,.v 22 (x1)),(2,.v 4 (.bool b2)),(7,iv n7),(8,.loc 8 0 0),(9,.loc 9 0 0),(11,iv n11)] [(9,.whole 84 y9),(8,.whole 84 y8)] g
def lo39:List CuI:=[⟨4,[K 0,K 1,K 2,K 7],[]⟩,⟨10,[K 0,K 1,K 2,K 7,K 8,K 9,K 10],[(9,.whole 84),(8,.whole 84)]⟩,⟨15,[K 0,K 1,K 2,K 7,K 8,K 9,K 11],[(9,.whole 84),(8,.whole 84)]⟩]
theorem w39(h0:Ha TT 22 x0)(h1:Ha TT 22 x1)
 (h:Br (((elO x0).length:Int)!=((elO x1).length:Int)) (Qf (.val (.d (.bool false))) g) (L39_4 x0 x1 b2 0 g Qf)):
 EvF TT 39 [x0,x1,.bool b2] g Qf:=
 sF Tryz.f39 lo39 [(22,x0),(22,x1),(4,.bool b2)] ⟨h0,h1,tyl rfl,trivial⟩ h
theorem w39_4
 (h:Br (decide (n7<((elO x0).length:Int))) (InB n7 (elO x0).length∧InB n7 (elO x1).length∧Br (!strOf (fld (gtE (elO x0) n7) 0)==strOf (fld (gtE (elO x1) n7) 0)) (Qf (.val (.d (.bool false))) g) (Br b2 (Br (intOf (fld (gtE (elO x0) n7) 3)!=intOf (fld (gtE (elO x1) n7) 3)) (Qf (.val (.d (.bool false))) g) (Br (((elO (fld (gtE (elO x0) n7) 1)).length:Int)!=((elO (fld (gtE (elO x1) n7) 1)).length:Int)) (Qf (.val (.d (.bool false))) g) (Br (((elO (fld (gtE (elO x0) n7) 2)).length:Int)!=((elO (fld (gtE (elO x1) n7) 2)).length:Int)) (Qf (.val (.d (.bool false))) g) (L39_10 x0 x1 b2 n7 0 (gtE (elO x1) n7) (gtE (elO x0) n7) g Qf)))) (Br (((elO (fld (gtE (elO x0) n7) 1)).length:Int)!=((elO (fld (gtE (elO x1) n7) 1)).length:Int)) (Qf (.val (.d (.bool false))) g) (Br (((elO (fld (gtE (elO x0) n7) 2)).length:Int)!=((elO (fld (gtE (elO x1) n7) 2)).length:Int)) (Qf (.val (.d (.bool false))) g) (L39_10 x0 x1 b2 n7 0 (gtE (elO x1) n7) (gtE (elO x0) n7) g Qf))))) (Qf (.val (.d (.bool true))) g)):
 L39_4 x0 x1 b2 n7 g Qf:=sC lo39 h
theorem w39_10
 (h:Br (decide (n10<((elO (fld y8 1)).length:Int))) (InB n10 (elO (fld y8 1)).length∧InB n10 (elO (fld y9 1)).length∧Br (!strOf (fld (gtE (elO (fld y8 1)) n10) 0)==strOf (fld (gtE (elO (fld y9 1)) n10) 0)) (Qf (.val (.d (.bool false))) g) (L39_10 x0 x1 b2 n7 (IntKind.i64.wrap (n10+1)) y9 y8 g Qf)) (L39_15 x0 x1 b2 n7 0 y9 y8 g Qf)):
 L39_10 x0 x1 b2 n7 n10 y9 y8 g Qf:=sC lo39 h
theorem w39_15
 (h:Br (decide (n11<((elO (fld y8 2)).length:Int))) (InB n11 (elO (fld y8 2)).length∧InB n11 (elO (fld y9 2)).length∧Br (!strOf (fld (gtE (elO (fld y8 2)) n11) 0)==strOf (fld (gtE (elO (fld y9 2)) n11) 0)) (Qf (.val (.d (.bool false))) g) (InB n11 (elO (fld y8 2)).length∧InB n11 (elO (fld y9 2)).length∧EvF TT 69 [fld (gtE (elO (fld y8 2)) n11) 1,fld (gtE (elO (fld y9 2)) n11) 1] g (KQ Qf λv g'=>∃b,v=.d (.bool b)∧Br (!b) (Qf (.val (.d (.bool false))) g') (L39_15 x0 x1 b2 n7 (IntKind.i64.wrap (n11+1)) y9 y8 g' Qf)))) (L39_4 x0 x1 b2 (IntKind.i64.wrap (n7+1)) g Qf)):
 L39_15 x0 x1 b2 n7 n11 y9 y8 g Qf:=sC lo39 h
theorem w13(h0:Ha TT 28 x0)(h1:Ha TT 28 x1)
 (h:EvF TT 39 [fld x0 0,fld x1 0,.bool b2] g (KQ Qf λv g'=>∃b,v=.d (.bool b)∧Br b (EvF TT 40 [.sl 7 [sub x0 1 7],.sl 7 [sub x1 1 7],.bool b2] g' (KQ Qf λv g'=>∃b,v=.d (.bool b)∧Qf (.val (.d (.bool b))) g')) (Qf (.val (.d (.bool false))) g'))):
 EvF TT 13 [x0,x1,.bool b2] g Qf:=
 sF Tryz.f13 [] [(28,x0),(28,x1),(4,.bool b2)] ⟨h0,h1,tyl rfl,trivial⟩ h
end Go.Proofs.YtiheejdkkjfenaaGreatDoor.Pa
namespace Go.Proofs.YtiheejdkkjfenaaGreatDoor.Pa
open Go Go.Proofs.YtiheejdkkjfenaaGreatDoor.Am
theorem nef{n m:Nat}(h:n=m):((n:Int)!=(m:Int))=false:=by simp[h]
theorem ner{n m:Nat}(h:n≠m):((n:Int)!=(m:Int))=true:=by simp;omega
theorem saT:∀(k:Nat) (x y:Dat) (g:Glob),SizeOf.sizeOf x<k→Ha TT 59 x→Ha TT 59 y→∀(Qf:OGP),Qf (.val (.d (.bool (eTy (abT x) (abT y))))) g→EvF TT 69 [x,y] g Qf
 |0,x,y,g,hk,_,_=>by omega
 |k+1,x,y,g,hk,hx,hy=>by
  have ex:=hx.els uT;have exl:=ex.1.1;have ey:=hy.els uT;rw[eTb,ay,ay,eqm];intro Qf hQ;refine w69 hx hy ?_
  by_cases hl:(elO x).length=(elO y).length
  ·rw[nef hl,Bf];generalize hR:eqy (λa b=>eA3 (aT a) (aT b)) (elO x) (elO y)=R at hQ;refine lU (len:=(elO x).length) (λi=>eqy (λa b=>eA3 (aT a) (aT b)) ((elO x).drop i) ((elO y).drop i)=R→L69_4 x y (i:Int) g Qf) ?_ ?_ 0 (Nat.zero_le _) hR
   ·intro h;rw[List.drop_length,hl,List.drop_length] at h;refine w69_4 ?_;rw[Bg];subst h;exact hQ
   ·intro i hi ih h;have hj:i<(elO y).length:=by omega
    refine w69_4 ?_;rw[Bl hi,geE hi,geE hj];rw[eqp hi hj] at h;have hsz:=siz hi;obtain⟨k1,s1,n1,a1,e1,_,t1⟩:=tpe (ex.2 _ (List.getElem_mem hi));obtain⟨k2,s2,n2,a2,e2,_,t2⟩:=tpe (ey.2 _ (List.getElem_mem hj));rw[e1] at hsz h⊢;rw[e2] at h⊢;have hc:SizeOf.sizeOf a1<k:=by have:=sO (cs:=[.int .i64 k1,.str s1,.int .i64 n1,a1]) (c:=a1) (by simp);omega
    simp only[aT,eA3] at h;refine⟨inB hi,inB hj,Bi.2 ⟨λq=>?_,λq=>⟨inB hi,inB hj,Bi.2 ⟨λq'=>?_,λq'=>⟨inB hi,inB hj,Bi.2 ⟨λq''=>?_,λq''=>⟨inB hi,inB hj,?_⟩⟩⟩⟩⟩⟩⟩
    all_goals simp[fld,nth,intOf,strOf] at q
    ·exact(by rw[←h];simp[q]:R=false)▸hQ
    all_goals simp[fld,nth,intOf,strOf] at q'
    ·exact(by rw[←h];simp[q']:R=false)▸hQ
    all_goals simp[fld,nth,intOf,strOf] at q''
    ·exact(by rw[←h];simp[q'']:R=false)▸hQ
    subst q q' q'';simp only[beq_self_eq_true,Bool.true_and] at h;refine saT k a1 a2 g hc t1 t2 _ ⟨_,rfl,Bi.2 ⟨λq=>?_,λq=>?_⟩⟩
    ·exact(by rw[←h];simp at q;simp[q]:R=false)▸hQ
    ·rw[wra (by omega)];refine ih ?_;rw[←h];simp at q;simp[q]
  ·rw[ner hl,Be];rw[eqe hl] at hQ;exact hQ
theorem saP(pl:Bool):∀(k:Nat) (x y:Dat) (g:Glob),SizeOf.sizeOf x<k→Ha TT 24 x→Ha TT 24 y→∀(Qf:OGP),Qf (.val (.d (.bool (eqP pl (abt x) (abt y))))) g→EvF TT 70 [x,y,.bool pl] g Qf
 |0,x,y,g,hk,_,_=>by omega
 |k+1,x,y,g,hk,hx,hy=>by
  have ex:=hx.els uP;have exl:=ex.1.1;have ey:=hy.els uP;rw[ePs,abP,abP,eqm];intro Qf hQ;refine w70 hx hy ?_
  by_cases hl:(elO x).length=(elO y).length
  ·rw[nef hl,Bf];generalize hR:eqy (λa b=>eqPt pl (aP a) (aP b)) (elO x) (elO y)=R at hQ;refine lU (len:=(elO x).length) (λi=>eqy (λa b=>eqPt pl (aP a) (aP b)) ((elO x).drop i) ((elO y).drop i)=R→L70_4 x y pl (i:Int) g Qf) ?_ ?_ 0 (Nat.zero_le _) hR
   ·intro h;rw[List.drop_length,hl,List.drop_length] at h;refine w70_4 ?_;rw[Bg];subst h;exact hQ
   ·intro i hi ih h;have hj:i<(elO y).length:=by omega
    refine w70_4 ?_;rw[Bl hi,geE hi,geE hj];rw[eqp hi hj] at h;have hsz:=siz hi;obtain⟨k1,s1,n1,a1,p1,e1,_,t1⟩:=ptt (ex.2 _ (List.getElem_mem hi));obtain⟨k2,s2,n2,a2,p2,e2,_,t2⟩:=ptt (ey.2 _ (List.getElem_mem hj));rw[e1] at hsz h⊢;rw[e2] at h⊢;have hc:SizeOf.sizeOf a1<k:=by have:=sO (cs:=[.int .i64 k1,.str s1,.int .i64 n1,a1,.int .i64 p1]) (c:=a1) (by simp);omega
    simp only[aP,eqPt] at h;refine⟨inB hi,inB hj,Bi.2 ⟨λq=>?_,λq=>Bi.2 ⟨λq'=>?_,λq'=>Bi.2 ⟨λq''=>?_,λq''=>?_⟩⟩⟩⟩
    all_goals simp[fld,nth,intOf,strOf] at q
    ·exact(by rw[←h];simp[q]:R=false)▸hQ
    all_goals simp[fld,nth,intOf,strOf] at q'
    ·exact(by rw[←h];simp[q']:R=false)▸hQ
    all_goals simp[fld,nth,intOf,strOf] at q''
    ·exact(by rw[←h];simp[q'']:R=false)▸hQ
    subst q q' q'';simp only[beq_self_eq_true,Bool.true_and] at h;have fin:(!pl||p1==p2)=true→EvF TT 70 [a1,a2,Dat.bool pl] g (KQ Qf λv g'=>∃b,v=Val.d (Dat.bool b)∧Br (!b) (Qf (Out.val (Val.d (Dat.bool false))) g') (L70_4 x y pl (IntKind.i64.wrap ((i:Int)+1)) g' Qf)):=by
     intro hp;simp only[hp,Bool.true_and] at h;refine saP pl k a1 a2 g hc t1 t2 _ ⟨_,rfl,Bi.2 ⟨λq=>?_,λq=>?_⟩⟩
     ·exact(by rw[←h];simp at q;simp[q]:R=false)▸hQ
     ·rw[wra (by omega)];refine ih ?_;rw[←h];simp at q;simp[q]
    refine Bi.2 ⟨λhp=>Bi.2 ⟨λq=>?_,λq=>fin ?_⟩,λhp=>fin (by simp[hp])⟩
    ·simp[fld,nth,intOf] at q;exact(by rw[←h];simp[hp,q]:R=false)▸hQ
    ·simp[fld,nth,intOf] at q;simp[q]
  ·rw[ner hl,Be];rw[eqe hl] at hQ;exact hQ
theorem saE(pl:Bool):∀(k:Nat) (x y:Dat) (g:Glob),SizeOf.sizeOf x<k→Ha TT 23 x→Ha TT 23 y→∀(Qf:OGP),Qf (.val (.d (.bool (eqx pl (abx x) (abx y))))) g→EvF TT 40 [x,y,.bool pl] g Qf
 |0,x,y,g,hk,_,_=>by omega
 |k+1,x,y,g,hk,hx,hy=>by
  have ex:=hx.els unE;have exl:=ex.1.1;have ey:=hy.els unE;rw[eEs,abE,abE,eqm];intro Qf hQ;refine w40 hx hy ?_
  by_cases hl:(elO x).length=(elO y).length
  ·rw[nef hl,Bf];generalize hR:eqy (λa b=>eA1 pl (ax a) (ax b)) (elO x) (elO y)=R at hQ;refine lU (len:=(elO x).length) (λi=>eqy (λa b=>eA1 pl (ax a) (ax b)) ((elO x).drop i) ((elO y).drop i)=R→L40_4 x y pl (i:Int) g Qf) ?_ ?_ 0 (Nat.zero_le _) hR
   ·intro h;rw[List.drop_length,hl,List.drop_length] at h;refine w40_4 ?_;rw[Bg];subst h;exact hQ
   ·intro i hi ih h;have hj:i<(elO y).length:=by omega
    refine w40_4 ?_;rw[Bl hi,geE hi,geE hj];rw[eqp hi hj] at h;have hsz:=siz hi;obtain⟨k1,s1,r1,n1,a1,b1,p1,e1,_,_,t1,u1⟩:=exr (ex.2 _ (List.getElem_mem hi));obtain⟨k2,s2,r2,n2,a2,b2,p2,e2,_,_,t2,u2⟩:=exr (ey.2 _ (List.getElem_mem hj));rw[e1] at hsz h⊢;rw[e2] at h⊢;have hc:SizeOf.sizeOf a1<k:=by have:=sO (cs:=[.int .i64 k1,.str s1,.str r1,.int .i64 n1,a1,b1,.int .i64 p1]) (c:=a1) (by simp);omega
    simp only[ax,eA1] at h;refine⟨inB hi,inB hj,Bi.2 ⟨λq=>?_,λq=>Bi.2 ⟨λq'=>?_,λq'=>Bi.2 ⟨λq''=>?_,λq''=>Bi.2 ⟨λq3=>?_,λq3=>?_⟩⟩⟩⟩⟩
    all_goals simp[fld,nth,intOf,strOf] at q
    ·exact(by rw[←h];simp[q]:R=false)▸hQ
    all_goals simp[fld,nth,intOf,strOf] at q'
    ·exact(by rw[←h];simp[q']:R=false)▸hQ
    all_goals simp[fld,nth,intOf,strOf] at q''
    ·exact(by rw[←h];simp[q'']:R=false)▸hQ
    all_goals simp[fld,nth,intOf,strOf] at q3
    ·exact(by rw[←h];simp[q3]:R=false)▸hQ
    subst q q' q'' q3;simp only[beq_self_eq_true,Bool.true_and] at h;have fin:(!pl||p1==p2)=true→EvF TT 70 [b1,b2,Dat.bool pl] g (KQ Qf λv g'=>∃b,v=Val.d (Dat.bool b)∧Br (!b) (Qf (Out.val (Val.d (Dat.bool false))) g') (EvF TT 40 [a1,a2,Dat.bool pl] g' (KQ Qf λv g'=>∃b,v=Val.d (Dat.bool b)∧Br (!b) (Qf (Out.val (Val.d (Dat.bool false))) g') (L40_4 x y pl (IntKind.i64.wrap ((i:Int)+1)) g' Qf)))):=by
     intro hp;simp only[hp,Bool.true_and] at h;refine saP pl _ b1 b2 g (Nat.lt_succ_self _) u1 u2 _ ⟨_,rfl,Bi.2 ⟨λq=>?_,λq=>?_⟩⟩
     ·exact(by rw[←h];simp at q;simp[q]:R=false)▸hQ
     ·refine saE pl k a1 a2 g hc t1 t2 _ ⟨_,rfl,Bi.2 ⟨λq'=>?_,λq'=>?_⟩⟩
      ·exact(by rw[←h];simp at q';simp[q']:R=false)▸hQ
      ·rw[wra (by omega)];refine ih ?_;rw[←h];simp at q q';simp[q,q']
    refine Bi.2 ⟨λhp=>Bi.2 ⟨λq=>?_,λq=>fin ?_⟩,λhp=>fin (by simp[hp])⟩
    ·simp[fld,nth,intOf] at q;exact(by rw[←h];simp[hp,q]:R=false)▸hQ
    ·simp[fld,nth,intOf] at q;simp[q]
  ·rw[ner hl,Be];rw[eqe hl] at hQ;exact hQ
end Go.Proofs.YtiheejdkkjfenaaGreatDoor.Pa
namespace Go.Proofs.YtiheejdkkjfenaaGreatDoor.Pa
open Go Go.Proofs.YtiheejdkkjfenaaGreatDoor.Am
end Go.Proofs.YtiheejdkkjfenaaGreatDoor.Pa
namespace Go.Proofs.YtiheejdkkjfenaaGreatDoor.Pa
open Go Go.Proofs.YtiheejdkkjfenaaGreatDoor.Am
def eCn(c d:Cn):Bool:=c.s==d.s&&eTy c.fs d.fs
def eqD(pl:Bool)(c d:Dc):Bool:=c.s==d.s&&((!pl||c.p==d.p)&&(eqy (λa b=>a==b) c.ps d.ps&&eqy eCn c.cs d.cs))
def eA4(pl:Bool)(p q:Pg):Bool:=eqy (eqD pl) p.ds q.ds&&eA1 pl p.e q.e
theorem aba(s:Str)(a b:Dat)(k:IntKind)(p:Int):abD (.agg [.str s,a,b,.int k p])=⟨s,(elO a).map strOf,(elO b).map aC,p⟩:=rfl
theorem asn(s:Str)(a:Dat):aC (.agg [.str s,a])=⟨s,abT a⟩:=rfl
theorem eqk(pl:Bool)(s s':Str)(a a':List Str)(b b':List Cn)(p p':Int):eqD pl ⟨s,a,b,p⟩ ⟨s',a',b',p'⟩=(s==s'&&((!pl||p==p')&&(eqy (λa b=>a==b) a a'&&eqy eCn b b'))):=rfl
theorem eCm(s s':Str)(a a':List Ty):eCn ⟨s,a⟩ ⟨s',a'⟩=(s==s'&&eTy a a'):=rfl
theorem lel{x:Dat}{t u:TypeId}(hu:TT.und t=some (.slice u))(hx:Ha TT t x):(elO x).length≤2^40:=(hx.els hu).1.1
theorem dcO(pl:Bool)(x y:Dat)(g:Glob)(hx:Ha TT 22 x)(hy:Ha TT 22 y)(Qf:OGP)(hQ:Qf (.val (.d (.bool (eqy (eqD pl) ((elO x).map abD) ((elO y).map abD))))) g):EvF TT 39 [x,y,.bool pl] g Qf:=by
 have ex:=hx.els uD;have ey:=hy.els uD;have exl:=ex.1.1;rw[eqm] at hQ;refine w39 hx hy ?_
 by_cases hl:(elO x).length=(elO y).length
 ·rw[nef hl,Bf];generalize hR:eqy (λa b=>eqD pl (abD a) (abD b)) (elO x) (elO y)=R at hQ;refine lU (len:=(elO x).length) (λi=>eqy (λa b=>eqD pl (abD a) (abD b)) ((elO x).drop i) ((elO y).drop i)=R→L39_4 x y pl (i:Int) g Qf) ?_ ?_ 0 (Nat.zero_le _) hR
  ·intro h;rw[List.drop_length,hl,List.drop_length] at h;refine w39_4 ?_;rw[Bg];subst h;exact hQ
  ·intro i hi ih h;have hj:i<(elO y).length:=by omega
   refine w39_4 ?_;rw[Bl hi,geE hi,geE hj];rw[eqp hi hj] at h;obtain⟨s1,a1,b1,p1,e1,_,ta1,tb1⟩:=det (ex.2 _ (List.getElem_mem hi));obtain⟨s2,a2,b2,p2,e2,_,ta2,tb2⟩:=det (ey.2 _ (List.getElem_mem hj));rw[e1] at h⊢;rw[e2] at h⊢;have ea1:=ta1.els uS;have ea2:=ta2.els uS;have eb1:=tb1.els uC;have eb2:=tb2.els uC;have la1:=ea1.1.1;have lb1:=eb1.1.1;simp only[aba,eqk] at h;refine⟨inB hi,inB hj,Bi.2 ⟨λq=>?_,λq=>?_⟩⟩
   all_goals simp[fld,nth,strOf] at q
   ·exact(by rw[←h];simp[q]:R=false)▸hQ
   subst q;simp only[beq_self_eq_true,Bool.true_and] at h
   -- what follows,when the places are alike
   have cons:(!pl||p1==p2)=true→(elO b1).length=(elO b2).length→eqy (λa b=>a==b) ((elO a1).map strOf) ((elO a2).map strOf)=true→
    L39_15 x y pl (i:Int) 0 (.agg [.str s1,a2,b2,.int .i64 p2]) (.agg [.str s1,a1,b1,.int .i64 p1]) g Qf:=by
    intro hp hlb ha;rw[hp,ha] at h;simp only[Bool.true_and] at h;rw[eqm] at h;generalize hR2:eqy (λa b=>eCn (aC a) (aC b)) (elO b1) (elO b2)=R2 at h;refine lU (len:=(elO b1).length) (λj=>eqy (λa b=>eCn (aC a) (aC b)) ((elO b1).drop j) ((elO b2).drop j)=R2→L39_15 x y pl (i:Int) (j:Int) (.agg [.str s1,a2,b2,.int .i64 p2]) (.agg [.str s1,a1,b1,.int .i64 p1]) g Qf) ?_ ?_ 0 (Nat.zero_le _) hR2
    ·intro h2;rw[List.drop_length,hlb,List.drop_length] at h2;refine w39_15 ?_;rw[show(fld (Dat.agg [.str s1,a1,b1,.int .i64 p1]) 2)=b1 from rfl,Bg];rw[wra (by omega)];refine ih ?_;rw[←h,←h2];rfl
    ·intro j hj1 ih2 h2;have hj2:j<(elO b2).length:=by omega
     refine w39_15 ?_;rw[show(fld (Dat.agg [.str s1,a1,b1,.int .i64 p1]) 2)=b1 from rfl,show(fld (Dat.agg [.str s1,a2,b2,.int .i64 p2]) 2)=b2 from rfl,Bl hj1,geE hj1,geE hj2];rw[eqp hj1 hj2] at h2;obtain⟨t1,f1,d1,_,tf1⟩:=coy (eb1.2 _ (List.getElem_mem hj1));obtain⟨t2,f2,d2,_,tf2⟩:=coy (eb2.2 _ (List.getElem_mem hj2));rw[d1] at h2⊢;rw[d2] at h2⊢;simp only[asn,eCm] at h2;refine⟨inB hj1,inB hj2,Bi.2 ⟨λq=>?_,λq=>⟨inB hj1,inB hj2,?_⟩⟩⟩
     all_goals simp[fld,nth,strOf] at q
     ·exact(by rw[←h,←h2];simp[q]:R=false)▸hQ
     subst q;simp only[beq_self_eq_true,Bool.true_and] at h2;refine saT _ f1 f2 g (Nat.lt_succ_self _) tf1 tf2 _ ⟨_,rfl,Bi.2 ⟨λq=>?_,λq=>?_⟩⟩
     ·exact(by rw[←h,←h2];simp at q;simp[q]:R=false)▸hQ
     ·rw[wra (by omega)];refine ih2 ?_;rw[←h2];simp at q;simp[q]
   have pars:(!pl||p1==p2)=true→(elO a1).length=(elO a2).length→(elO b1).length=(elO b2).length→
     L39_10 x y pl (i:Int) 0 (.agg [.str s1,a2,b2,.int .i64 p2]) (.agg [.str s1,a1,b1,.int .i64 p1]) g Qf:=by
    intro hp hla hlb;generalize hR2:eqy (λa b=>a==b) ((elO a1).map strOf) ((elO a2).map strOf)=R2 at h cons;rw[eqm] at hR2;refine lU (len:=(elO a1).length) (λj=>eqy (λa b=>strOf a==strOf b) ((elO a1).drop j) ((elO a2).drop j)=R2→L39_10 x y pl (i:Int) (j:Int) (.agg [.str s1,a2,b2,.int .i64 p2]) (.agg [.str s1,a1,b1,.int .i64 p1]) g Qf) ?_ ?_ 0 (Nat.zero_le _) hR2
    ·intro h2;rw[List.drop_length,hla,List.drop_length] at h2;refine w39_10 ?_;rw[show(fld (Dat.agg [.str s1,a1,b1,.int .i64 p1]) 1)=a1 from rfl,Bg];exact cons hp hlb (by rw[←h2];rfl)
    ·intro j hj1 ih2 h2;have hj2:j<(elO a2).length:=by omega
     refine w39_10 ?_;rw[show(fld (Dat.agg [.str s1,a1,b1,.int .i64 p1]) 1)=a1 from rfl,show(fld (Dat.agg [.str s1,a2,b2,.int .i64 p2]) 1)=a2 from rfl,Bl hj1,geE hj1,geE hj2];rw[eqp hj1 hj2] at h2;obtain⟨t1,d1,_⟩:=srt (ea1.2 _ (List.getElem_mem hj1));obtain⟨t2,d2,_⟩:=srt (ea2.2 _ (List.getElem_mem hj2));rw[d1] at h2⊢;rw[d2] at h2⊢;simp only[strOf] at h2;refine⟨inB hj1,inB hj2,Bi.2 ⟨λq=>?_,λq=>?_⟩⟩
     all_goals simp[fld,strOf] at q
     ·exact(by rw[←h,←h2];simp[q]:R=false)▸hQ
     subst q;simp only[beq_self_eq_true,Bool.true_and] at h2;rw[wra (by omega)];exact ih2 h2
   have lens:(!pl||p1==p2)=true→Br (((elO a1).length:Int)!=((elO a2).length:Int)) (Qf (Out.val (Val.d (Dat.bool false))) g) (Br (((elO b1).length:Int)!=((elO b2).length:Int)) (Qf (Out.val (Val.d (Dat.bool false))) g) (L39_10 x y pl (i:Int) 0 (.agg [.str s1,a2,b2,.int .i64 p2]) (.agg [.str s1,a1,b1,.int .i64 p1]) g Qf)):=by
    intro hp
    by_cases h1:(elO a1).length=(elO a2).length
    ·rw[nef h1,Bf]
     by_cases h2:(elO b1).length=(elO b2).length
     ·rw[nef h2,Bf];exact pars hp h1 h2
     ·rw[ner h2,Be];exact(by rw[←h,eqe (f:=eCn) (by simpa using h2)];simp:R=false)▸hQ
    ·rw[ner h1,Be];exact(by rw[←h,eqe (f:=λa b=>a==b) (by simpa using h1)];simp:R=false)▸hQ
   refine Bi.2 ⟨λhp=>Bi.2 ⟨λq=>?_,λq=>lens ?_⟩,λhp=>lens (by simp[hp])⟩
   ·simp[fld,nth,intOf] at q;exact(by rw[←h];simp[hp,q]:R=false)▸hQ
   ·simp[fld,nth,intOf] at q;simp[q]
 ·rw[ner hl,Be];rw[eqe hl] at hQ;exact hQ
theorem onx{x:Dat}(hx:Ha TT 26 x):Ha TT 23 (.sl 7 [x]):=
 .sl _ _ _ _ unE (by kernel_rfl) ⟨by simp,λb hb=>by
  have:TT.bytes 26=some 104:=by kernel_rfl
  rw[this] at hb;cases hb;simp⟩ (by simpa using hx)
theorem reS(pl:Bool)(x y:Dat)(g:Glob)(hx:Ha TT 28 x)(hy:Ha TT 28 y)(Qf:OGP)(hQ:Qf (.val (.d (.bool (eA4 pl (abg x) (abg y))))) g):EvF TT 13 [x,y,.bool pl] g Qf:=by
 refine w13 hx hy ?_;obtain⟨d1,k1,s1,r1,n1,a1,b1,p1,rfl,hd1,he1⟩:=pro hx;obtain⟨d2,k2,s2,r2,n2,a2,b2,p2,rfl,hd2,he2⟩:=pro hy;simp only[eA4,abg] at hQ;refine dcO pl d1 d2 g hd1 hd2 _ ⟨_,rfl,Bi.2 ⟨λq=>?_,λq=>?_⟩⟩
 ·refine saE pl _ _ _ g (Nat.lt_succ_self _) (onx he1) (onx he2) _ ⟨_,rfl,?_⟩;have:eqy (eqD pl) ((elO (fld (.agg [d1,.int .i64 k1,.str s1,.str r1,.int .i64 n1,a1,b1,.int .i64 p1]) 0)).map abD) ((elO (fld (.agg [d2,.int .i64 k2,.str s2,.str r2,.int .i64 n2,a2,b2,.int .i64 p2]) 0)).map abD)=true:=q;rw[this,Bool.true_and] at hQ
  simpa[abx,abL,eqx,sub] using hQ
 ·have:eqy (eqD pl) ((elO (fld (.agg [d1,.int .i64 k1,.str s1,.str r1,.int .i64 n1,a1,b1,.int .i64 p1]) 0)).map abD) ((elO (fld (.agg [d2,.int .i64 k2,.str s2,.str r2,.int .i64 n2,a2,b2,.int .i64 p2]) 0)).map abD)=false:=q;rw[this,Bool.false_and] at hQ;exact hQ
end Go.Proofs.YtiheejdkkjfenaaGreatDoor.Pa
namespace Go.Proofs.YtiheejdkkjfenaaGreatDoor.Pa
open Go Go.Proofs.YtiheejdkkjfenaaGreatDoor.Am
end Go.Proofs.YtiheejdkkjfenaaGreatDoor.Pa
namespace Go.Proofs.YtiheejdkkjfenaaGreatDoor.Pa
open Go Go.Proofs.YtiheejdkkjfenaaGreatDoor.Am
variable{x0 y3 y5:Dat}{g:Glob}{Qf:OGP}{l3 l6:List Dat}{n1 n2 n3 n4 n5 n6 n7 n8:Int}
def L45_3(x0:Dat)(l3:List Dat)(n4:Int)(g:Glob)(Qf:OGP):=LC 45 Tryz.f45 [1,1,0,1,0] Qf 1 [(0,.v 59 (x0)),(3,.acc [(23,0)] 59 4 l3),(4,iv n4)] [] g
def lo45:List CuI:=[⟨3,[K 0,(3,.acc [23]),K 4],[]⟩]
theorem w45(h0:Ha TT 59 x0)
 (h:L45_3 x0 [] 0 g Qf):
 EvF TT 45 [x0] g Qf:=
 sF Tryz.f45 lo45 [(59,x0)] ⟨h0,trivial⟩ h
theorem w45_3
 (h:Br (decide (n4<((elO x0).length:Int))) (InB n4 (elO x0).length∧EvF TT 45 [fld (gtE (elO x0) n4) 3] g (KQ Qf λv g'=>∃x,Ha TT 59 x∧Rt v x∧Fits (l3.length+[Dat.agg [.int .i64 (intOf (fld (gtE (elO x0) n4) 0)),.str (strOf (fld (gtE (elO x0) n4) 1)),.int .i64 (intOf (fld (gtE (elO x0) n4) 2)),x]].length) 56∧L45_3 x0 (l3++[Dat.agg [.int .i64 (intOf (fld (gtE (elO x0) n4) 0)),.str (strOf (fld (gtE (elO x0) n4) 1)),.int .i64 (intOf (fld (gtE (elO x0) n4) 2)),x]]) (IntKind.i64.wrap (n4+1)) g' Qf)) (Qf (.val (rf 4 l3)) g)):
 L45_3 x0 l3 n4 g Qf:=sC lo45 h
def L18_3(x0:Dat)(l3:List Dat)(n4:Int)(g:Glob)(Qf:OGP):=LC 18 Tryz.f18 [1,1,0,1,0] Qf 1 [(0,.v 24 (x0)),(3,.acc [(23,0)] 24 5 l3),(4,iv n4)] [] g
def lo18:List CuI:=[⟨3,[K 0,(3,.acc [23]),K 4],[]⟩]
theorem w18(h0:Ha TT 24 x0)
 (h:L18_3 x0 [] 0 g Qf):
 EvF TT 18 [x0] g Qf:=
 sF Tryz.f18 lo18 [(24,x0)] ⟨h0,trivial⟩ h
theorem w18_3
 (h:Br (decide (n4<((elO x0).length:Int))) (InB n4 (elO x0).length∧EvF TT 18 [fld (gtE (elO x0) n4) 3] g (KQ Qf λv g'=>∃x,Ha TT 24 x∧Rt v x∧Fits (l3.length+[Dat.agg [.int .i64 (intOf (fld (gtE (elO x0) n4) 0)),.str (strOf (fld (gtE (elO x0) n4) 1)),.int .i64 (intOf (fld (gtE (elO x0) n4) 2)),x,.int .i64 (intOf (fld (gtE (elO x0) n4) 4))]].length) 64∧L18_3 x0 (l3++[Dat.agg [.int .i64 (intOf (fld (gtE (elO x0) n4) 0)),.str (strOf (fld (gtE (elO x0) n4) 1)),.int .i64 (intOf (fld (gtE (elO x0) n4) 2)),x,.int .i64 (intOf (fld (gtE (elO x0) n4) 4))]]) (IntKind.i64.wrap (n4+1)) g' Qf)) (Qf (.val (rf 5 l3)) g)):
 L18_3 x0 l3 n4 g Qf:=sC lo18 h
def L34_3(x0:Dat)(l3:List Dat)(n4:Int)(g:Glob)(Qf:OGP):=LC 34 Tryz.f34 [1,1,0,1,0] Qf 1 [(0,.v 23 (x0)),(3,.acc [(27,0)] 23 7 l3),(4,iv n4)] [] g
def lo34:List CuI:=[⟨3,[K 0,(3,.acc [27]),K 4],[]⟩]
theorem w34(h0:Ha TT 23 x0)
 (h:L34_3 x0 [] 0 g Qf):
 EvF TT 34 [x0] g Qf:=
 sF Tryz.f34 lo34 [(23,x0)] ⟨h0,trivial⟩ h
theorem w34_3
 (h:Br (decide (n4<((elO x0).length:Int))) (InB n4 (elO x0).length∧EvF TT 34 [fld (gtE (elO x0) n4) 4] g (KQ Qf λv g'=>∃x,Ha TT 23 x∧Rt v x∧EvF TT 18 [fld (gtE (elO x0) n4) 5] g' (KQ Qf λv g'=>∃x_1,Ha TT 24 x_1∧Rt v x_1∧Fits (l3.length+[Dat.agg [.int .i64 (intOf (fld (gtE (elO x0) n4) 0)),.str (strOf (fld (gtE (elO x0) n4) 1)),.str (strOf (fld (gtE (elO x0) n4) 2)),.int .i64 (intOf (fld (gtE (elO x0) n4) 3)),x,x_1,.int .i64 (intOf (fld (gtE (elO x0) n4) 6))]].length) 104∧L34_3 x0 (l3++[Dat.agg [.int .i64 (intOf (fld (gtE (elO x0) n4) 0)),.str (strOf (fld (gtE (elO x0) n4) 1)),.str (strOf (fld (gtE (elO x0) n4) 2)),.int .i64 (intOf (fld (gtE (elO x0) n4) 3)),x,x_1,.int .i64 (intOf (fld (gtE (elO x0) n4) 6))]]) (IntKind.i64.wrap (n4+1)) g' Qf))) (Qf (.val (rf 7 l3)) g)):
 L34_3 x0 l3 n4 g Qf:=sC lo34 h
def L17_3(x0:Dat)(l3:List Dat)(n4:Int)(g:Glob)(Qf:OGP):=LC 17 Tryz.f17 [1,1,0,1,0] Qf 1 [(0,.v 22 (x0)),(3,.acc [(52,0)] 22 4 l3),(4,iv n4)] [] g
def L17_9(x0:Dat)(l3:List Dat)(n4:Int)(l6:List Dat)(n7:Int)(y5:Dat)(g:Glob)(Qf:OGP):=LC 17 Tryz.f17 [1,1,0,1,0,0,1,0,0,1,1,1,0,1,0] Qf 1 [(0,.v 22 (x0)),(3,.acc [(52,0)] 22 4 l3),(4,iv n4),(5,.loc 5 0 0),(6,.acc [(46,0)] 81 2 l6),(7,iv n7)] [(5,.whole 84 y5)] g
def lo17:List CuI:=[⟨3,[K 0,(3,.acc [52]),K 4],[]⟩,⟨9,[K 0,(3,.acc [52]),K 4,K 5,(6,.acc [46]),K 7],[(5,.whole 84)]⟩]
theorem w17(h0:Ha TT 22 x0)
 (h:L17_3 x0 [] 0 g Qf):
 EvF TT 17 [x0] g Qf:=
 sF Tryz.f17 lo17 [(22,x0)] ⟨h0,trivial⟩ h
theorem w17_3
 (h:Br (decide (n4<((elO x0).length:Int))) (InB n4 (elO x0).length∧Fits (0+(elO (fld (gtE (elO x0) n4) 1)).length) 16∧L17_9 x0 l3 n4 [] 0 (.agg [.str (strOf (fld (gtE (elO x0) n4) 0)),.sl 1 ([]++elO (fld (gtE (elO x0) n4) 1)),fld (gtE (elO x0) n4) 2,.int .i64 (intOf (fld (gtE (elO x0) n4) 3))]) g Qf) (Qf (.val (rf 4 l3)) g)):
 L17_3 x0 l3 n4 g Qf:=sC lo17 h
theorem w17_9
 (h:Br (decide (n7<((elO (fld y5 2)).length:Int))) (InB n7 (elO (fld y5 2)).length∧InB n7 (elO (fld y5 2)).length∧EvF TT 45 [fld (gtE (elO (fld y5 2)) n7) 1] g (KQ Qf λv g'=>∃x,Ha TT 59 x∧Rt v x∧Fits (l6.length+[Dat.agg [.str (strOf (fld (gtE (elO (fld y5 2)) n7) 0)),x]].length) 40∧L17_9 x0 l3 n4 (l6++[Dat.agg [.str (strOf (fld (gtE (elO (fld y5 2)) n7) 0)),x]]) (IntKind.i64.wrap (n7+1)) y5 g' Qf)) (Fits (l3.length+[Dat.agg [.str (strOf (fld y5 0)),fld y5 1,sOf 2 l6,.int .i64 (intOf (fld y5 3))]].length) 72∧L17_3 x0 (l3++[Dat.agg [.str (strOf (fld y5 0)),fld y5 1,sOf 2 l6,.int .i64 (intOf (fld y5 3))]]) (IntKind.i64.wrap (n4+1)) g Qf)):
 L17_9 x0 l3 n4 l6 n7 y5 g Qf:=sC lo17 h
theorem w10(h0:Ha TT 28 x0)
 (h:EvF TT 17 [fld x0 0] g (KQ Qf λv g'=>∃x,Ha TT 22 x∧Rt v x∧EvF TT 34 [.sl 7 [sub x0 1 7]] g' (KQ Qf λv g'=>∃x_1,Ha TT 23 x_1∧Rt v x_1∧InB 0 (elO x_1).length∧Qf (.val (.d (.agg [x,.int .i64 (intOf (.int .i64 (intOf (fld (gtE (elO x_1) 0) 0)))),.str (strOf (.str (strOf (fld (gtE (elO x_1) 0) 1)))),.str (strOf (.str (strOf (fld (gtE (elO x_1) 0) 2)))),.int .i64 (intOf (.int .i64 (intOf (fld (gtE (elO x_1) 0) 3)))),fld (.agg [x,.int .i64 (intOf (fld (gtE (elO x_1) 0) 0)),.str (strOf (fld (gtE (elO x_1) 0) 1)),.str (strOf (fld (gtE (elO x_1) 0) 2)),.int .i64 (intOf (fld (gtE (elO x_1) 0) 3)),fld (gtE (elO x_1) 0) 4,fld (gtE (elO x_1) 0) 5,.int .i64 (intOf (fld (gtE (elO x_1) 0) 6))]) 5,fld (.agg [x,.int .i64 (intOf (fld (gtE (elO x_1) 0) 0)),.str (strOf (fld (gtE (elO x_1) 0) 1)),.str (strOf (fld (gtE (elO x_1) 0) 2)),.int .i64 (intOf (fld (gtE (elO x_1) 0) 3)),fld (gtE (elO x_1) 0) 4,fld (gtE (elO x_1) 0) 5,.int .i64 (intOf (fld (gtE (elO x_1) 0) 6))]) 6,.int .i64 (intOf (.int .i64 (intOf (fld (gtE (elO x_1) 0) 6))))]))) g'))):
 EvF TT 10 [x0] g Qf:=
 sF Tryz.f10 [] [(28,x0)] ⟨h0,trivial⟩ h
def L51_5(n1 n2 n7:Int)(y3:Dat)(g:Glob)(Qf:OGP):=LC 51 Tryz.f51 [1,1,1,0,1,0] Qf 3 [(1,iv n1),(2,iv n2),(3,.loc 3 0 0),(7,iv n7)] [(3,.whole 61 y3)] g
def lo51:List CuI:=[⟨5,[K 1,K 2,K 3,K 7],[(3,.whole 61)]⟩]
theorem w51(h0:Ha TT 61 x0)
 (h:NeZ 10∧Br (decide (20000<IntKind.i64.wrap (n2+IntKind.i64.wrap (1+IntKind.i64.wrap (((elO (fld x0 3)).length:Int).tdiv 10))))) (Qf (.val (.d (.int .i64 (-1)))) g) (Br (decide (600<n1)) (Qf (.val (.d (.int .i64 (-1)))) g) (L51_5 n1 (IntKind.i64.wrap (n2+IntKind.i64.wrap (1+IntKind.i64.wrap (((elO (fld x0 3)).length:Int).tdiv 10)))) 0 x0 g Qf))):
 EvF TT 51 [x0,.int .i64 n1,.int .i64 n2] g Qf:=
 sF Tryz.f51 lo51 [(61,x0),(3,.int .i64 n1),(3,.int .i64 n2)] ⟨h0,tyI rfl,tyI rfl,trivial⟩ h
theorem w51_5
 (h:Br (decide (n7<((elO (fld y3 3)).length:Int))) (Br (decide (0≤n2)) (InB n7 (elO (fld y3 3)).length∧EvF TT 51 [gtE (elO (fld y3 3)) n7,.int .i64 (IntKind.i64.wrap (n1+1)),.int .i64 n2] g (KQ Qf λv g'=>∃n,v=.d (.int .i64 n)∧L51_5 n1 n (IntKind.i64.wrap (n7+1)) y3 g' Qf)) (Qf (.val (.d (.int .i64 n2))) g)) (Qf (.val (.d (.int .i64 n2))) g)):
 L51_5 n1 n2 n7 y3 g Qf:=sC lo51 h
def L71_5(n1 n2 n7:Int)(y3:Dat)(g:Glob)(Qf:OGP):=LC 71 Tryz.f71 [1,1,1,0,1,0] Qf 3 [(1,iv n1),(2,iv n2),(3,.loc 3 0 0),(7,iv n7)] [(3,.whole 52 y3)] g
def lo71:List CuI:=[⟨5,[K 1,K 2,K 3,K 7],[(3,.whole 52)]⟩]
theorem w71(h0:Ha TT 52 x0)
 (h:NeZ 10∧Br (decide (20000<IntKind.i64.wrap (n2+IntKind.i64.wrap (1+IntKind.i64.wrap (((elO (fld x0 3)).length:Int).tdiv 10))))) (Qf (.val (.d (.int .i64 (-1)))) g) (Br (decide (600<n1)) (Qf (.val (.d (.int .i64 (-1)))) g) (L71_5 n1 (IntKind.i64.wrap (n2+IntKind.i64.wrap (1+IntKind.i64.wrap (((elO (fld x0 3)).length:Int).tdiv 10)))) 0 x0 g Qf))):
 EvF TT 71 [x0,.int .i64 n1,.int .i64 n2] g Qf:=
 sF Tryz.f71 lo71 [(52,x0),(3,.int .i64 n1),(3,.int .i64 n2)] ⟨h0,tyI rfl,tyI rfl,trivial⟩ h
theorem w71_5
 (h:Br (decide (n7<((elO (fld y3 3)).length:Int))) (Br (decide (0≤n2)) (InB n7 (elO (fld y3 3)).length∧EvF TT 71 [gtE (elO (fld y3 3)) n7,.int .i64 (IntKind.i64.wrap (n1+1)),.int .i64 n2] g (KQ Qf λv g'=>∃n,v=.d (.int .i64 n)∧L71_5 n1 n (IntKind.i64.wrap (n7+1)) y3 g' Qf)) (Qf (.val (.d (.int .i64 n2))) g)) (Qf (.val (.d (.int .i64 n2))) g)):
 L71_5 n1 n2 n7 y3 g Qf:=sC lo71 h
def L58_5(n1 n2 n7:Int)(y3:Dat)(g:Glob)(Qf:OGP):=LC 58 Tryz.f58 [1,1,1,0,1,0] Qf 3 [(1,iv n1),(2,iv n2),(3,.loc 3 0 0),(7,iv n7)] [(3,.whole 26 y3)] g
def L58_9(n1 n2 n8:Int)(y3:Dat)(g:Glob)(Qf:OGP):=LC 58 Tryz.f58 [1,1,1,1,0,1,0] Qf 3 [(1,iv n1),(2,iv n2),(3,.loc 3 0 0),(8,iv n8)] [(3,.whole 26 y3)] g
def lo58:List CuI:=[⟨5,[K 1,K 2,K 3,K 7],[(3,.whole 26)]⟩,⟨9,[K 1,K 2,K 3,K 8],[(3,.whole 26)]⟩]
theorem w58(h0:Ha TT 26 x0)
 (h:NeZ 10∧NeZ 10∧Br (decide (20000<IntKind.i64.wrap (n2+IntKind.i64.wrap (IntKind.i64.wrap (1+IntKind.i64.wrap (((elO (fld x0 4)).length:Int).tdiv 10))+IntKind.i64.wrap (((elO (fld x0 5)).length:Int).tdiv 10))))) (Qf (.val (.d (.int .i64 (-1)))) g) (Br (decide (600<n1)) (Qf (.val (.d (.int .i64 (-1)))) g) (L58_5 n1 (IntKind.i64.wrap (n2+IntKind.i64.wrap (IntKind.i64.wrap (1+IntKind.i64.wrap (((elO (fld x0 4)).length:Int).tdiv 10))+IntKind.i64.wrap (((elO (fld x0 5)).length:Int).tdiv 10)))) 0 x0 g Qf))):
 EvF TT 58 [x0,.int .i64 n1,.int .i64 n2] g Qf:=
 sF Tryz.f58 lo58 [(26,x0),(3,.int .i64 n1),(3,.int .i64 n2)] ⟨h0,tyI rfl,tyI rfl,trivial⟩ h
theorem w58_5
 (h:Br (decide (n7<((elO (fld y3 5)).length:Int))) (Br (decide (0≤n2)) (InB n7 (elO (fld y3 5)).length∧EvF TT 71 [gtE (elO (fld y3 5)) n7,.int .i64 (IntKind.i64.wrap (n1+1)),.int .i64 n2] g (KQ Qf λv g'=>∃n,v=.d (.int .i64 n)∧L58_5 n1 n (IntKind.i64.wrap (n7+1)) y3 g' Qf)) (L58_9 n1 n2 0 y3 g Qf)) (L58_9 n1 n2 0 y3 g Qf)):
 L58_5 n1 n2 n7 y3 g Qf:=sC lo58 h
theorem w58_9
 (h:Br (decide (n8<((elO (fld y3 4)).length:Int))) (Br (decide (0≤n2)) (InB n8 (elO (fld y3 4)).length∧EvF TT 58 [gtE (elO (fld y3 4)) n8,.int .i64 (IntKind.i64.wrap (n1+1)),.int .i64 n2] g (KQ Qf λv g'=>∃n,v=.d (.int .i64 n)∧L58_9 n1 n (IntKind.i64.wrap (n8+1)) y3 g' Qf)) (Qf (.val (.d (.int .i64 n2))) g)) (Qf (.val (.d (.int .i64 n2))) g)):
 L58_9 n1 n2 n8 y3 g Qf:=sC lo58 h
def L26_5(x0:Dat)(n3 n4:Int)(g:Glob)(Qf:OGP):=LC 26 Tryz.f26 [1,1,1,0,1,0] Qf 1 [(0,.v 22 (x0)),(3,iv n3),(4,iv n4)] [] g
def L26_10(x0:Dat)(n3 n4 n5:Int)(g:Glob)(Qf:OGP):=LC 26 Tryz.f26 [1,1,1,0,1,0,0,1,0,0,1,1,0] Qf 1 [(0,.v 22 (x0)),(3,iv n3),(4,iv n4),(5,iv n5)] [] g
def L26_15(x0:Dat)(n3 n4:Int)(n5 n6:Int)(g:Glob)(Qf:OGP):=LC 26 Tryz.f26 [1,1,1,0,1,0,0,1,0,0,1,1,0,0,1,0,0,1,0,1,0] Qf 1 [(0,.v 22 (x0)),(3,iv n3),(4,iv n4),(5,iv n5),(6,iv n6)] [] g
def lo26:List CuI:=[⟨5,[K 0,K 3,K 4],[]⟩,⟨10,[K 0,K 3,K 4,K 5],[]⟩,⟨15,[K 0,K 3,K 4,K 5,K 6],[]⟩]
theorem w26(h0:Ha TT 22 x0)
 (h:Br (decide (200<((elO x0).length:Int))) (Qf (.val (.d (.bool true))) g) (L26_5 x0 0 0 g Qf)):
 EvF TT 26 [x0] g Qf:=
 sF Tryz.f26 lo26 [(22,x0)] ⟨h0,trivial⟩ h
theorem w26_5
 (h:Br (decide (n4<((elO x0).length:Int))) (InB n4 (elO x0).length∧Br (decide (200<((elO (fld (gtE (elO x0) n4) 2)).length:Int))) (Qf (.val (.d (.bool true))) g) (InB n4 (elO x0).length∧Br (decide (200<((elO (fld (gtE (elO x0) n4) 1)).length:Int))) (Qf (.val (.d (.bool true))) g) (L26_10 x0 n3 n4 0 g Qf))) (Qf (.val (.d (.bool false))) g)):
 L26_5 x0 n3 n4 g Qf:=sC lo26 h
theorem w26_10
 (h:InB n4 (elO x0).length∧Br (decide (n5<((elO (fld (gtE (elO x0) n4) 2)).length:Int))) (InB n4 (elO x0).length∧InB n5 (elO (fld (gtE (elO x0) n4) 2)).length∧Br (decide (200<((elO (fld (gtE (elO (fld (gtE (elO x0) n4) 2)) n5) 1)).length:Int))) (Qf (.val (.d (.bool true))) g) (L26_15 x0 n3 n4 n5 0 g Qf)) (L26_5 x0 n3 (IntKind.i64.wrap (n4+1)) g Qf)):
 L26_10 x0 n3 n4 n5 g Qf:=sC lo26 h
theorem w26_15
 (h:InB n4 (elO x0).length∧InB n5 (elO (fld (gtE (elO x0) n4) 2)).length∧Br (decide (n6<((elO (fld (gtE (elO (fld (gtE (elO x0) n4) 2)) n5) 1)).length:Int))) (Br (decide (0≤n3)) (InB n4 (elO x0).length∧InB n5 (elO (fld (gtE (elO x0) n4) 2)).length∧InB n6 (elO (fld (gtE (elO (fld (gtE (elO x0) n4) 2)) n5) 1)).length∧EvF TT 51 [gtE (elO (fld (gtE (elO (fld (gtE (elO x0) n4) 2)) n5) 1)) n6,.int .i64 0,.int .i64 n3] g (KQ Qf λv g'=>∃n,v=.d (.int .i64 n)∧L26_15 x0 n n4 n5 (IntKind.i64.wrap (n6+1)) g' Qf)) (Br (decide (n3<0)) (Qf (.val (.d (.bool true))) g) (L26_10 x0 n3 n4 (IntKind.i64.wrap (n5+1)) g Qf))) (Br (decide (n3<0)) (Qf (.val (.d (.bool true))) g) (L26_10 x0 n3 n4 (IntKind.i64.wrap (n5+1)) g Qf))):
 L26_15 x0 n3 n4 n5 n6 g Qf:=sC lo26 h
theorem w31(h0:Ha TT 26 x0)
 (h:EvF TT 58 [x0,.int .i64 0,.int .i64 0] g (KQ Qf λv g'=>∃n,v=.d (.int .i64 n)∧Qf (.val (.d (.bool (decide (n<0))))) g')):
 EvF TT 31 [x0] g Qf:=
 sF Tryz.f31 [] [(26,x0)] ⟨h0,trivial⟩ h
theorem w7(h0:Ha TT 28 x0)
 (h:EvF TT 26 [fld x0 0] g (KQ Qf λv g'=>∃b,v=.d (.bool b)∧Br b (Qf (.val (.d (.bool true))) g') (EvF TT 31 [sub x0 1 7] g' (KQ Qf λv g'=>∃b,v=.d (.bool b)∧Qf (.val (.d (.bool b))) g')))):
 EvF TT 7 [x0] g Qf:=
 sF Tryz.f7 [] [(28,x0)] ⟨h0,trivial⟩ h
end Go.Proofs.YtiheejdkkjfenaaGreatDoor.Pa
namespace Go.Proofs.YtiheejdkkjfenaaGreatDoor.Pa
open Go Go.Proofs.YtiheejdkkjfenaaGreatDoor.Am
theorem rO(m:Nat)(l:List Dat):Rt (rf m l) (sOf m l):=by cases l<;>rfl
theorem byType:TT.bytes 61=some 56:=by kernel_rfl
theorem bP:TT.bytes 52=some 64:=by kernel_rfl
theorem byE:TT.bytes 26=some 104:=by kernel_rfl
theorem byC:TT.bytes 80=some 40:=by kernel_rfl
theorem byD:TT.bytes 84=some 72:=by kernel_rfl
theorem byS:TT.bytes 9=some 16:=by kernel_rfl
theorem szT:TT.size 61=some 4:=by kernel_rfl
theorem sza:TT.size 52=some 5:=by kernel_rfl
theorem szp:TT.size 26=some 7:=by kernel_rfl
theorem szC:TT.size 80=some 2:=by kernel_rfl
theorem szD:TT.size 84=some 4:=by kernel_rfl
theorem szS:TT.size 9=some 1:=by kernel_rfl
theorem take_snoc{α β:Type}{f:α→β}{xs:List α}{ys:List α}{i:Nat}{y:α}(hi:i<xs.length)(h:ys.map f=(xs.take i).map f)(hy:f y=f xs[i]):(ys++[y]).map f=(xs.take (i+1)).map f:=by
 rw[List.map_append,h,List.take_succ_eq_append_getElem hi,List.map_append,List.map_singleton,List.map_singleton,hy]
theorem cop:∀(k:Nat) (x:Dat) (g:Glob),SizeOf.sizeOf x<k→Ha TT 59 x→∀(Qf:OGP),(∀l:List Dat,(∀y∈l,Ha TT 61 y)→l.length=(elO x).length→l.map aT=(elO x).map aT→Qf (.val (rf 4 l)) g)→EvF TT 45 [x] g Qf
 |0,x,g,hk,_=>by omega
 |k+1,x,g,hk,hx=>by
  intro Qf hQ;have ex:=hx.els uT;have exl:=ex.1.1;refine w45 hx ?_;refine lU (len:=(elO x).length) (λi=>∀l:List Dat,l.length=i→(∀y∈l,Ha TT 61 y)→l.map aT=((elO x).take i).map aT→L45_3 x l (i:Int) g Qf) ?_ ?_ 0 (Nat.zero_le _) [] rfl (λy h=>by cases h) rfl
  ·intro l h1 h2 h3;refine w45_3 ?_;rw[Bg];rw[List.take_length] at h3;exact hQ l h2 h1 h3
  ·intro i hi ih l h1 h2 h3;refine w45_3 ?_;rw[Bl hi,geE hi];have hsz:=siz hi;obtain⟨k1,s1,n1,a1,e1,hs1,t1⟩:=tpe (ex.2 _ (List.getElem_mem hi));have hab:aT (elO x)[i]=.mk k1 s1 n1 (abT a1):=by rw[e1];rfl
   rw[e1] at hsz⊢;have hc:=sO (cs:=[.int .i64 k1,.str s1,.int .i64 n1,a1]) (c:=a1) (by simp);refine⟨inB hi,cop k a1 g (by omega) t1 _ λl' hl' hn' ha'=>?_⟩;have ta:Ha TT 59 (sOf 4 l'):=slf uT szT (by rw[hn'];exact(t1.els uT).1) hl';refine⟨sOf 4 l',ta,rO _ _,(ex.1.le (by simp;omega)).fits byType,?_⟩;rw[wra (by omega)];refine ih _ (by simp[h1]) (λy hy=>?_) (take_snoc hi h3 ?_)
   ·rcases List.mem_append.1 hy with hy|hy
    ·exact h2 y hy
    ·simp only[List.mem_singleton] at hy;subst hy;exact tty hs1 ta
   ·rw[hab];show Ty.mk k1 s1 n1 (abT (sOf 4 l'))=_;rw[ay,slO,ha',←ay]
theorem cpy:∀(k:Nat) (x:Dat) (g:Glob),SizeOf.sizeOf x<k→Ha TT 24 x→∀(Qf:OGP),(∀l:List Dat,(∀y∈l,Ha TT 52 y)→l.length=(elO x).length→l.map aP=(elO x).map aP→Qf (.val (rf 5 l)) g)→EvF TT 18 [x] g Qf
 |0,x,g,hk,_=>by omega
 |k+1,x,g,hk,hx=>by
  intro Qf hQ;have ex:=hx.els uP;have exl:=ex.1.1;refine w18 hx ?_;refine lU (len:=(elO x).length) (λi=>∀l:List Dat,l.length=i→(∀y∈l,Ha TT 52 y)→l.map aP=((elO x).take i).map aP→L18_3 x l (i:Int) g Qf) ?_ ?_ 0 (Nat.zero_le _) [] rfl (λy h=>by cases h) rfl
  ·intro l h1 h2 h3;refine w18_3 ?_;rw[Bg];rw[List.take_length] at h3;exact hQ l h2 h1 h3
  ·intro i hi ih l h1 h2 h3;refine w18_3 ?_;rw[Bl hi,geE hi];have hsz:=siz hi;obtain⟨k1,s1,n1,a1,p1,e1,hs1,t1⟩:=ptt (ex.2 _ (List.getElem_mem hi));have hab:aP (elO x)[i]=.mk k1 s1 n1 (abt a1) p1:=by rw[e1];rfl
   rw[e1] at hsz⊢;have hc:=sO (cs:=[.int .i64 k1,.str s1,.int .i64 n1,a1,.int .i64 p1]) (c:=a1) (by simp);refine⟨inB hi,cpy k a1 g (by omega) t1 _ λl' hl' hn' ha'=>?_⟩;have ta:Ha TT 24 (sOf 5 l'):=slf uP sza (by rw[hn'];exact(t1.els uP).1) hl';refine⟨sOf 5 l',ta,rO _ _,(ex.1.le (by simp;omega)).fits bP,?_⟩;rw[wra (by omega)];refine ih _ (by simp[h1]) (λy hy=>?_) (take_snoc hi h3 ?_)
   ·rcases List.mem_append.1 hy with hy|hy
    ·exact h2 y hy
    ·simp only[List.mem_singleton] at hy;subst hy;exact tpa hs1 ta
   ·rw[hab];show Pt.mk k1 s1 n1 (abt (sOf 5 l')) p1=_;rw[abP,slO,ha',←abP]
theorem cox:∀(k:Nat) (x:Dat) (g:Glob),SizeOf.sizeOf x<k→Ha TT 23 x→∀(Qf:OGP),(∀l:List Dat,(∀y∈l,Ha TT 26 y)→l.length=(elO x).length→l.map ax=(elO x).map ax→Qf (.val (rf 7 l)) g)→EvF TT 34 [x] g Qf
 |0,x,g,hk,_=>by omega
 |k+1,x,g,hk,hx=>by
  intro Qf hQ;have ex:=hx.els unE;have exl:=ex.1.1;refine w34 hx ?_;refine lU (len:=(elO x).length) (λi=>∀l:List Dat,l.length=i→(∀y∈l,Ha TT 26 y)→l.map ax=((elO x).take i).map ax→L34_3 x l (i:Int) g Qf) ?_ ?_ 0 (Nat.zero_le _) [] rfl (λy h=>by cases h) rfl
  ·intro l h1 h2 h3;refine w34_3 ?_;rw[Bg];rw[List.take_length] at h3;exact hQ l h2 h1 h3
  ·intro i hi ih l h1 h2 h3;refine w34_3 ?_;rw[Bl hi,geE hi];have hsz:=siz hi;obtain⟨k1,s1,r1,n1,a1,b1,p1,e1,hs1,hr1,t1,u1⟩:=exr (ex.2 _ (List.getElem_mem hi));have hab:ax (elO x)[i]=.mk k1 s1 r1 n1 (abx a1) (abt b1) p1:=by rw[e1];rfl
   rw[e1] at hsz⊢;have hc:=sO (cs:=[.int .i64 k1,.str s1,.str r1,.int .i64 n1,a1,b1,.int .i64 p1]) (c:=a1) (by simp);refine⟨inB hi,cox k a1 g (by omega) t1 _ λl' hl' hn' ha'=>?_⟩;have ta:Ha TT 23 (sOf 7 l'):=slf unE szp (by rw[hn'];exact(t1.els unE).1) hl';refine⟨sOf 7 l',ta,rO _ _,cpy _ b1 g (Nat.lt_succ_self _) u1 _ λm hm hmn hma=>?_⟩;have tb:Ha TT 24 (sOf 5 m):=slf uP sza (by rw[hmn];exact(u1.els uP).1) hm;refine⟨sOf 5 m,tb,rO _ _,(ex.1.le (by simp;omega)).fits byE,?_⟩;rw[wra (by omega)];refine ih _ (by simp[h1]) (λy hy=>?_) (take_snoc hi h3 ?_)
   ·rcases List.mem_append.1 hy with hy|hy
    ·exact h2 y hy
    ·simp only[List.mem_singleton] at hy;subst hy;exact tep hs1 hr1 ta tb
   ·rw[hab];show Ex'.mk k1 s1 r1 n1 (abx (sOf 7 l')) (abt (sOf 5 m)) p1=_;rw[abE,slO,ha',←abE,abP,slO,hma,←abP]
theorem coD(x:Dat)(g:Glob)(hx:Ha TT 22 x)(Qf:OGP)(hQ:∀l:List Dat,(∀y∈l,Ha TT 84 y)→l.length=(elO x).length→l.map abD=(elO x).map abD→Qf (.val (rf 4 l)) g):EvF TT 17 [x] g Qf:=by
 have ex:=hx.els uD;have exl:=ex.1.1;refine w17 hx ?_;refine lU (len:=(elO x).length) (λi=>∀l:List Dat,l.length=i→(∀y∈l,Ha TT 84 y)→l.map abD=((elO x).take i).map abD→L17_3 x l (i:Int) g Qf) ?_ ?_ 0 (Nat.zero_le _) [] rfl (λy h=>by cases h) rfl
 ·intro l h1 h2 h3;refine w17_3 ?_;rw[Bg];rw[List.take_length] at h3;exact hQ l h2 h1 h3
 ·intro i hi ih l h1 h2 h3;refine w17_3 ?_;rw[Bl hi,geE hi];obtain⟨s1,a1,b1,p1,e1,hs1,ta1,tb1⟩:=det (ex.2 _ (List.getElem_mem hi));have hab:abD (elO x)[i]=⟨s1,(elO a1).map strOf,(elO b1).map aC,p1⟩:=by rw[e1];rfl
  rw[e1];have ea:=ta1.els uS;have eb:=tb1.els uC;have ebl:=eb.1.1;have tA:Ha TT 82 (.sl 1 ([]++elO a1)):=.sl _ _ _ _ uS szS (by simpa using ea.1) (by simpa using ea.2);refine⟨inB hi,(ea.1.le (by simp[fld,nth])).fits byS,?_⟩;refine lU (len:=(elO b1).length) (λj=>∀m:List Dat,m.length=j→(∀y∈m,Ha TT 80 y)→m.map aC=((elO b1).take j).map aC→
   L17_9 x l (i:Int) m (j:Int) (.agg [.str s1,.sl 1 ([]++elO a1),b1,.int .i64 p1]) g Qf) ?_ ?_ 0 (Nat.zero_le _) [] rfl (λy h=>by cases h) rfl
  ·intro m q1 q2 q3;refine w17_9 ?_;rw[show(fld (Dat.agg [.str s1,.sl 1 ([]++elO a1),b1,.int .i64 p1]) 2)=b1 from rfl,Bg];refine⟨(ex.1.le (by simp;omega)).fits byD,?_⟩;rw[wra (by omega)];rw[List.take_length] at q3;have tB:Ha TT 81 (sOf 2 m):=slf uC szC (by rw[q1];exact eb.1) q2;refine ih _ (by simp[h1]) (λy hy=>?_) (take_snoc hi h3 ?_)
   ·rcases List.mem_append.1 hy with hy|hy
    ·exact h2 y hy
    ·simp only[List.mem_singleton] at hy;subst hy;exact tyc hs1 tA tB
   ·rw[hab];show(⟨s1,(elO (.sl 1 ([]++elO a1))).map strOf,(elO (sOf 2 m)).map aC,p1⟩:Dc)=_;rw[slO,q3];rfl
  ·intro j hj ihj m q1 q2 q3;refine w17_9 ?_;rw[show(fld (Dat.agg [.str s1,.sl 1 ([]++elO a1),b1,.int .i64 p1]) 2)=b1 from rfl,Bl hj,geE hj];obtain⟨t1,f1,d1,ht1,tf1⟩:=coy (eb.2 _ (List.getElem_mem hj));have hac:aC (elO b1)[j]=⟨t1,abT f1⟩:=by rw[d1];rfl
   rw[d1];refine⟨inB hj,inB hj,cop _ f1 g (Nat.lt_succ_self _) tf1 _ λl' hl' hn' ha'=>?_⟩;have tF:Ha TT 59 (sOf 4 l'):=slf uT szT (by rw[hn'];exact(tf1.els uT).1) hl';refine⟨sOf 4 l',tF,rO _ _,(eb.1.le (by simp;omega)).fits byC,?_⟩;rw[wra (by omega)];refine ihj _ (by simp[q1]) (λy hy=>?_) (take_snoc hj q3 ?_)
   ·rcases List.mem_append.1 hy with hy|hy
    ·exact q2 y hy
    ·simp only[List.mem_singleton] at hy;subst hy;exact tco ht1 tF
   ·rw[hac];show(⟨t1,abT (sOf 4 l')⟩:Cn)=_;rw[ay,slO,ha',←ay]
theorem cpo(x:Dat)(g:Glob)(hx:Ha TT 28 x)(Qf:OGP)(hQ:∀r,Ha TT 28 r→abg r=abg x→Qf (.val (.d r)) g):EvF TT 10 [x] g Qf:=by
 refine w10 hx ?_;obtain⟨d1,k1,s1,r1,n1,a1,b1,p1,rfl,hd1,he1⟩:=pro hx;refine coD d1 g hd1 _ λl hl hn ha=>?_;have tD:Ha TT 22 (sOf 4 l):=slf uD szD (by rw[hn];exact(hd1.els uD).1) hl;refine⟨sOf 4 l,tD,rO _ _,cox _ _ g (Nat.lt_succ_self _) (onx he1) _ λm hm hmn hma=>?_⟩;obtain⟨y,rfl⟩:∃y,m=[y]:=by
  match m,hmn with
  |[y],_=>exact⟨y,rfl⟩
 have hy:=hm y (by simp);have hya:ax y=ax (.agg [.int .i64 k1,.str s1,.str r1,.int .i64 n1,a1,b1,.int .i64 p1]):=by
  have:=hma
  simpa[elO,sub] using this
 refine⟨.sl 7 [y],onx hy,rfl,⟨Int.le_refl _,by simp[elO]⟩,?_⟩;obtain⟨k2,s2,r2,n2,a2,b2,p2,rfl,hs2,hr2,t2,u2⟩:=exr hy;refine hQ _ (tpr tD (tep hs2 hr2 t2 u2)) ?_;show(⟨(elO (sOf 4 l)).map abD,ax (.agg [.int .i64 k2,.str s2,.str r2,.int .i64 n2,a2,b2,.int .i64 p2])⟩:Pg)=⟨(elO d1).map abD,ax (.agg [.int .i64 k1,.str s1,.str r1,.int .i64 n1,a1,b1,.int .i64 p1])⟩
 rw[slO,ha,hya]
end Go.Proofs.YtiheejdkkjfenaaGreatDoor.Pa
namespace Go.Proofs.YtiheejdkkjfenaaGreatDoor.Pa
open Go Go.Proofs.YtiheejdkkjfenaaGreatDoor.Am
mutual
theorem eTr:∀x:Ty,eA3 x x=true
 |.mk k s n a=>by simp[eA3,eqT a]
theorem eqT:∀x:List Ty,eTy x x=true
 |[]=>rfl
 |x::xs=>by simp[eTy,eTr x,eqT xs]
end
mutual
theorem ePt(pl:Bool):∀x:Pt,eqPt pl x x=true
 |.mk k s n a p=>by simp[eqPt,eP pl a]
theorem eP(pl:Bool):∀x:List Pt,eqP pl x x=true
 |[]=>rfl
 |x::xs=>by simp[eqP,ePt pl x,eP pl xs]
end
mutual
theorem eEx(pl:Bool):∀x:Ex',eA1 pl x x=true
 |.mk k s r n a b p=>by simp[eA1,eqE pl a,eP pl b]
theorem eqE(pl:Bool):∀x:List Ex',eqx pl x x=true
 |[]=>rfl
 |x::xs=>by simp[eqx,eEx pl x,eqE pl xs]
end
theorem eqf{α:Type}{f:α→α→Bool}(h:∀x,f x x=true):∀xs,eqy f xs xs=true
 |[]=>rfl
 |x::xs=>by simp[eqy,h x,eqf h xs]
theorem eqC(x:Cn):eCn x x=true:=by simp[eCn,eqT]
theorem eqc(pl:Bool)(x:Dc):eqD pl x x=true:=by
 simp[eqD,eqf eqC,eqf (f:=λa b:Str=>a==b) (by simp)]
theorem ePg(pl:Bool)(x:Pg):eA4 pl x x=true:=by
 simp[eA4,eqf (eqc pl),eEx]
end Go.Proofs.YtiheejdkkjfenaaGreatDoor.Pa
