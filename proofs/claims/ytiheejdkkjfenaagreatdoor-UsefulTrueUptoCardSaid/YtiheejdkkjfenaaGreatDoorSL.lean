/- Useful: a Field's type, values and patterns of a type, walked. Useful: which rows are idle. -/
import Derived.Test.YtiheejdkkjfenaaGreatDoorSK
set_option linter.all false
set_option autoImplicit false
set_option maxRecDepth 100000
namespace Go.Proofs.YtiheejdkkjfenaaGreatDoor.Pa
open Go Go.Proofs.YtiheejdkkjfenaaGreatDoor.Am
theorem ty_intT:HasTy TT 61 (.agg [.int .i64 1,.str [],.int .i64 0,.nil]):=ty_type (by simp) (.nil _ (by rw[undTypes];rfl))
theorem field17_ok{d a:Dat}(hd:HasTy TT 84 d)(ha:HasTy TT 59 a):∀(k:Nat) (x:Dat) (g:Glob),SizeOf.sizeOf x<k→HasTy TT 61 x→∀(Qf:OGP),
 (∀r,HasTy TT 61 r→absTy r=fieldT (absDc d).ps ((elsOf a).map absTy) (absTy x)→Qf (.val (.d r)) g)→EvF TT 57 [d,x,a] g Qf
 |0,x,g,hk,_=>by omega
 |k+1,x,g,hk,hx=>by
  intro Qf hQ
  obtain⟨k1,s1,n1,a1,rfl,hs1,t1⟩:=type_ty hx
  have hab:absTy (.agg [.int .i64 k1,.str s1,.int .i64 n1,a1])=.mk k1 s1 n1 ((elsOf a1).map absTy):=by rw[←absTyA_map];rfl
  rw[hab] at hQ
  obtain⟨s2,p2,c2,q2,e2,hs2,tp2,tc2⟩:=decl_ty hd
  have ex:=t1.els undTypes
  have ea:=ha.els undTypes
  have ep:=tp2.els undStrs
  have exl:=ex.1.1
  have eal:=ea.1.1
  have epl:=ep.1.1
  have hc:=sizeOf_cell (cs:=[.int .i64 k1,.str s1,.int .i64 n1,a1]) (c:=a1) (by simp)
  have hps:(absDc d).ps=(elsOf p2).map strOf:=by rw[e2];rfl
  rw[hps] at hQ
  have f0:fld d 1=p2:=by rw[e2];rfl
  have f1:fld (.agg [.int .i64 k1,.str s1,.int .i64 n1,a1]) 3=a1:=rfl
  refine w57 hd hx ha (Br_iff.2 ⟨λq=>?_,λq=>?_⟩)
  ·have q:(k1==2)=true:=q
   have hQ:∀r,HasTy TT 61 r→absTy r=lookT s1 ((elsOf p2).map strOf) ((elsOf a).map absTy)→Qf (.val (.d r)) g:=λr hr er=>hQ r hr (by rw[fieldT,q,er];rfl)
   refine loopUp (len:=(elsOf p2).length) (λi=>(∀r,HasTy TT 61 r→absTy r=lookT s1 (((elsOf p2).drop i).map strOf) (((elsOf a).drop i).map absTy)→Qf (.val (.d r)) g)→L57_3 a (i:Int) (Dat.agg [Dat.int IntKind.i64 0,Dat.str [],Dat.int IntKind.i64 0,Dat.nil]) (.agg [.int .i64 k1,.str s1,.int .i64 n1,a1]) d g Qf) ?_ ?_ 0 (Nat.zero_le _) hQ
   ·intro hQ
    refine w57_3 ?_
    rw[f0,Br_ge]
    refine hQ _ ty_intT ?_
    rw[List.drop_length,List.map_nil]
    cases ((elsOf a).drop (elsOf p2).length).map absTy<;>rfl
   ·intro i hi ih hQ
    refine w57_3 ?_
    rw[f0,Br_lt hi,getE_nat hi]
    refine Br_iff.2 ⟨λq3=>?_,λq3=>?_⟩
    ·have hia:i<(elsOf a).length:=by have:=of_decide_eq_true q3;omega
     rw[drop_map_cons hi,drop_map_cons hia,lookT] at hQ
     rw[getE_nat hia]
     obtain⟨s3,e3,_⟩:=str_ty (ep.2 _ (List.getElem_mem hi))
     rw[e3] at hQ⊢
     have q0:strOf (.str s3)=s3:=rfl
     rw[q0] at hQ
     refine⟨inB hi,Br_iff.2 ⟨λq4=>⟨inB hia,?_⟩,λq4=>?_⟩⟩
     ·have q4:(s3==s1)=true:=q4
      rw[q4] at hQ
      have te:=ea.2 _ (List.getElem_mem hia)
      obtain⟨k5,s5,n5,a5,e5,hs5,t5⟩:=type_ty te
      rw[e5] at hQ te⊢
      exact hQ (.agg [.int .i64 k5,.str s5,.int .i64 n5,a5]) te rfl
     ·have q4:(s3==s1)=false:=q4
      rw[q4] at hQ
      rw[wrap_nat (by omega)]
      exact ih hQ
    ·have hge:(elsOf a).drop i=[]:=List.drop_eq_nil_of_le (by have:=of_decide_eq_false q3;omega)
     rw[hge,drop_map_cons hi] at hQ
     exact hQ _ ty_intT rfl
  ·have q:(k1==2)=false:=q
   refine loopUp (len:=(elsOf a1).length) (λi=>∀l:List Dat,l.length=i→(∀y∈l,HasTy TT 61 y)→l.map absTy=((elsOf a1).take i).map (λt=>fieldT ((elsOf p2).map strOf) ((elsOf a).map absTy) (absTy t))→L57_10 a l (i:Int) (Dat.agg [Dat.int IntKind.i64 0,Dat.str [],Dat.int IntKind.i64 0,Dat.nil]) (.agg [.int .i64 k1,.str s1,.int .i64 n1,a1]) d g Qf) ?_ ?_ 0 (Nat.zero_le _) [] rfl (λy h=>by cases h) rfl
   ·intro l h1 h2 h3
    refine w57_10 ?_
    rw[f1,Br_ge]
    rw[List.take_length] at h3
    have ta:HasTy TT 59 (slOf 4 l):=slOf_ty undTypes szType (by rw[h1];exact ex.1) h2
    refine hQ (.agg [.int .i64 k1,.str s1,.int .i64 n1,slOf 4 l]) (ty_type hs1 ta) ?_
    rw[fieldT,q,cond_false,fieldTs_map]
    show Ty.mk k1 s1 n1 (absTyA (slOf 4 l))=_
    rw[absTyA_map,slOf_els,h3,List.map_map]
    rfl
   ·intro i hi ih l h1 h2 h3
    refine w57_10 ?_
    rw[f1,Br_lt hi,getE_nat hi,wrap_nat (by omega)]
    have hsz:=sizeOf_el hi
    refine⟨inB hi,field17_ok hd ha k _ g (by omega) (ex.2 _ (List.getElem_mem hi)) _ λr hr er=>⟨r,hr,rfl,(ex.1.le (by simp;omega)).fits byType,ih _ (by simp[h1]) (λy hy=>?_) ?_⟩⟩
    ·rcases List.mem_append.1 hy with hy|hy
     ·exact h2 y hy
     ·simp only[List.mem_singleton] at hy;subst hy;exact hr
    ·rw[List.map_append,h3,List.take_succ_eq_append_getElem hi,List.map_append,List.map_singleton,List.map_singleton,er,hps]
theorem isE{α β:Type}(xs:List α)(f:α→β):((xs.length:Int)==0)=(xs.map f).isEmpty:=by
 cases xs with
 |nil=>rfl
 |cons a l=>
  have:(((a::l).length:Int)==0)=false:=by rw[beq_eq_false_iff_ne,List.length_cons];omega
  rw[this]
  rfl
theorem all2_drop{α β:Type}{p:α→β→Bool}{xs ys:List Dat}{f:Dat→α}{h:Dat→β}{i:Nat}(h1:i<xs.length)(h2:i<ys.length):all2 p ((xs.drop i).map f) ((ys.drop i).map h)=(p (f xs[i]) (h ys[i])&&all2 p ((xs.drop (i+1)).map f) ((ys.drop (i+1)).map h)):=by
 rw[drop_map_cons h1,drop_map_cons h2]
 rfl
theorem all2_end{α β:Type}{p:α→β→Bool}(xs:List α):all2 p xs []=true:=by cases xs<;>rfl
theorem con_at{l:Dat}(hl:HasTy TT 22 l){i:Nat}{d:Dc}(h:(DD l)[i]?=some d):∃(hi:i<(elsOf l).length),HasTy TT 84 (elsOf l)[i]∧d=absDc (elsOf l)[i]∧HasTy TT 81 (fld (elsOf l)[i] 2)∧d.cs=(elsOf (fld (elsOf l)[i] 2)).map absCn:=by
 have e:((elsOf l).map absDc)[i]?=some d:=h
 rw[List.getElem?_map] at e
 cases hc:(elsOf l)[i]? with
 |none=>rw[hc] at e;cases e
 |some y=>
  rw[hc] at e
  obtain⟨hi,hy⟩:=List.getElem?_eq_some_iff.1 hc
  have ed:d=absDc y:=by simpa using e.symm
  have ty:=(hl.els undDecls).2 _ (List.getElem_mem hi)
  refine⟨hi,ty,by rw[ed,hy],?_,by rw[ed,←hy];rfl⟩
  obtain⟨s,a,b,p,e2,_,_,tb⟩:=decl_ty ty
  rw[e2]
  exact tb
theorem cns_at{b:Dat}(hb:HasTy TT 81 b){k:Nat}(hk:k<(elsOf b).length):HasTy TT 59 (fld (elsOf b)[k] 1)∧((elsOf b).map absCn)[k]?=some (absCn (elsOf b)[k])∧(absCn (elsOf b)[k]).fs=(elsOf (fld (elsOf b)[k] 1)).map absTy:=by
 refine⟨?_,by rw[List.getElem?_map,List.getElem?_eq_getElem hk];rfl,absCn_fs _⟩
 obtain⟨s,a,e,_,ta⟩:=con_ty ((hb.els undCons).2 _ (List.getElem_mem hk))
 rw[e]
 exact ta
theorem step_left(f:Nat)(h:f≤200):IntKind.i64.wrap (((f+1:Nat):Int)-1)=(f:Int):=by
 rw[show((f+1:Nat):Int)-1=(f:Int) from by omega]
 exact wrap_id (by omega) (by omega)
theorem fits17_ok{l:Dat}(hl:HasTy TT 22 l):∀(f:Nat) (t v:Dat) (g:Glob),f≤200→HasTy TT 61 t→HasTy TT 55 v→∀(Qf:OGP),Qf (.val (.d (.bool (fitV (DD l) f (absTy t) (absVl v))))) g→EvF TT 29 [l,t,v,.int .i64 (f:Int)] g Qf
 |0,t,v,g,_,ht,hv=>by
  intro Qf hQ
  refine w29 hl ht hv (Br_iff.2 ⟨λ_=>hQ,λq=>?_⟩)
  have:=of_decide_eq_false q
  exact absurd (by decide) this
 |f+1,t,v,g,hf,ht,hv=>by
  intro Qf hQ
  obtain⟨k1,s1,n1,a1,rfl,hs1,t1⟩:=type_ty ht
  obtain⟨i2,m2,a2,rfl,t2⟩:=val_ty hv
  have hab:absTy (.agg [.int .i64 k1,.str s1,.int .i64 n1,a1])=.mk k1 s1 n1 ((elsOf a1).map absTy):=by rw[←absTyA_map];rfl
  have hav:absVl (.agg [.bool i2,.int .i64 m2,a2])=.mk i2 m2 ((elsOf a2).map absVl):=by rw[←absVlA_map];rfl
  have hix:tyIx (DD l) (.mk k1 s1 n1 ((elsOf a1).map absTy))=bif k1==4 then declIx s1 (DD l) 0 else -1:=rfl
  have ll:=len_le undDecls hl
  have l2:=len_le undVals t2
  have base:tyIx (DD l) (.mk k1 s1 n1 ((elsOf a1).map absTy))<0→Br i2 (Qf (.val (.d (.bool (((elsOf a2).length:Int)==0)))) g) (Qf (.val (.d (.bool false))) g):=λh=>by
   rw[hab,hav,fitV,decide_eq_true h,cond_true,←isE] at hQ
   cases i2 with
   |true=>exact hQ
   |false=>exact hQ
  refine w29 hl ht hv (Br_iff.2 ⟨λq=>by have:=of_decide_eq_true q;omega,λ_=>Br_iff.2 ⟨λq=>?_,λq=>?_⟩⟩)
  rotate_left
  ·have q:(k1==4)=false:=q
   rw[q,cond_false] at hix
   exact base (by rw[hix];decide)
  have q:(k1==4)=true:=q
  rw[q,cond_true] at hix
  refine decl14_ok (s:=s1) (D:=l) (l:=DD l) ⟨hl,rfl⟩ hs1 ⟨_,rfl,Br_iff.2 ⟨λq2=>?_,λq2=>?_⟩⟩
  ·exact base (by rw[hix];exact of_decide_eq_true q2)
  rcases declIx_spec s1 (DD l) 0 with ⟨k,d,e1,e2,_⟩|⟨e1,_⟩
  case inr=>
   have e1':declIx s1 ((elsOf l).map absDc) 0=-1:=e1
   rw[e1'] at q2;cases q2
  rw[Nat.zero_add] at e1
  have e1:declIx s1 (DD l) 0=(k:Int):=e1
  have e1':declIx s1 ((elsOf l).map absDc) 0=(k:Int):=e1
  rw[e1]
  rw[e1] at hix
  obtain⟨hi,td,ed,tc,ec⟩:=con_at hl e2
  rw[hab,hav,fitV,hix,show decide ((k:Int)<0)=false from decide_eq_false (by omega),cond_false,Int.toNat_natCast,e2] at hQ
  simp only[] at hQ
  have lc:=len_le undCons tc
  rw[getE_nat hi]
  have fin:∀b,(!i2&&(decide (0≤m2)&&match d.cs[m2.toNat]? with
   |none=>false
   |some c=>((elsOf a2).map absVl).length==c.fs.length&&all2 (λq v=>fitV (DD l) f (fieldT d.ps (argsT (.mk k1 s1 n1 ((elsOf a1).map absTy))) q) v) c.fs ((elsOf a2).map absVl)))=b→Qf (.val (.d (.bool b))) g:=λb e=>e▸hQ
  refine Br_iff.2 ⟨λq3=>fin _ (by have q3:i2=true:=q3;rw[q3];rfl),λq3=>Br_iff.2 ⟨λq4=>fin _ ?_,λq4=>⟨inB hi,Br_iff.2 ⟨λq5=>fin _ ?_,λq5=>?_⟩⟩⟩⟩
  ·have q4:m2<0:=of_decide_eq_true q4
   rw[show decide (0≤m2)=false from decide_eq_false (by omega)]
   cases i2<;>rfl
  ·have q5:((elsOf (fld (elsOf l)[k] 2)).length:Int)≤m2:=of_decide_eq_true q5
   rw[List.getElem?_eq_none (by rw[ec,List.length_map];omega)]
   cases i2<;>cases decide (0≤m2)<;>rfl
  have q3':i2=false:=q3
  have q4:¬m2<0:=of_decide_eq_false q4
  have q5:¬((elsOf (fld (elsOf l)[k] 2)).length:Int)≤m2:=of_decide_eq_false q5
  obtain⟨m,rfl⟩:∃m:Nat,m2=(m:Int):=⟨m2.toNat,by omega⟩
  have hm:m<(elsOf (fld (elsOf l)[k] 2)).length:=by omega
  obtain⟨tf,ek,ef⟩:=cns_at tc hm
  rw[ec,Int.toNat_natCast,ek] at fin
  simp only[q3',Bool.not_false,Bool.true_and,show decide (0≤(m:Int))=true from decide_eq_true (by omega),List.length_map,ef] at fin
  have lf:=len_le undTypes tf
  have g0:intOf (fld (.agg [.bool i2,.int .i64 (m:Int),a2]) 1)=(m:Int):=rfl
  have g1:fld (.agg [.bool i2,.int .i64 (m:Int),a2]) 2=a2:=rfl
  have g2:fld (.agg [.int .i64 k1,.str s1,.int .i64 n1,a1]) 3=a1:=rfl
  rw[g0,getE_nat hm,g1]
  refine⟨inB hi,inB hm,Br_iff.2 ⟨λq6=>fin _ ?_,λq6=>?_⟩⟩
  ·have:((elsOf a2).length==(elsOf (fld (elsOf (fld (elsOf l)[k] 2))[m] 1)).length)=false:=by
    rw[beq_eq_false_iff_ne]
    intro e
    rw[e] at q6
    simp at q6
   rw[this]
   rfl
  have hlen:(elsOf a2).length=(elsOf (fld (elsOf (fld (elsOf l)[k] 2))[m] 1)).length:=by
   have q6:(((elsOf a2).length:Int)!=((elsOf (fld (elsOf (fld (elsOf l)[k] 2))[m] 1)).length:Int))=false:=q6
   simp only[bne,Bool.not_eq_false',beq_iff_eq] at q6
   omega
  have fin:Qf (.val (.d (.bool (all2 (λq v=>fitV (DD l) f (fieldT d.ps ((elsOf a1).map absTy) q) v) ((elsOf (fld (elsOf (fld (elsOf l)[k] 2))[m] 1)).map absTy) ((elsOf a2).map absVl))))) g:=fin _ (by rw[hlen,beq_self_eq_true,Bool.true_and];rfl)
  refine loopUp (len:=(elsOf a2).length) (λi=>Qf (.val (.d (.bool (all2 (λq v=>fitV (DD l) f (fieldT d.ps ((elsOf a1).map absTy) q) v) (((elsOf (fld (elsOf (fld (elsOf l)[k] 2))[m] 1)).drop i).map absTy) (((elsOf a2).drop i).map absVl))))) g→L29_11 l ((f+1:Nat):Int) (k:Int) (i:Int) (.agg [.bool i2,.int .i64 (m:Int),a2]) (.agg [.int .i64 k1,.str s1,.int .i64 n1,a1]) g Qf) ?_ ?_ 0 (Nat.zero_le _) fin
  ·intro hQ
   refine w29_11 ?_
   rw[g1,Br_ge]
   rw[List.drop_length,List.map_nil,all2_end] at hQ
   exact hQ
  ·intro i hi' ih hQ
   have hif:i<(elsOf (fld (elsOf (fld (elsOf l)[k] 2))[m] 1)).length:=by omega
   refine w29_11 ?_
   rw[all2_drop hif hi'] at hQ
   rw[g0,g1,g2,Br_lt hi',getE_nat hi,getE_nat hm,getE_nat hif,getE_nat hi',step_left f (by omega),wrap_nat (by omega)]
   refine⟨inB hi,inB hi,inB hm,inB hif,field17_ok td t1 _ _ g (Nat.lt_succ_self _) ((tf.els undTypes).2 _ (List.getElem_mem hif)) _ λr hr er=>⟨r,hr,rfl,inB hi',?_⟩⟩
   refine fits17_ok hl f r _ g (by omega) hr ((t2.els undVals).2 _ (List.getElem_mem hi')) _ ⟨_,rfl,?_⟩
   rw[er,←ed]
   refine Br_iff.2 ⟨λq7=>?_,λq7=>ih ?_⟩
   ·rw[Bool.not_eq_true'] at q7
    rw[q7] at hQ
    exact hQ
   ·rw[Bool.not_eq_false'] at q7
    rw[q7,Bool.true_and] at hQ
    exact hQ
theorem typed17_ok{l:Dat}(hl:HasTy TT 22 l):∀(f:Nat) (t x:Dat) (g:Glob),f≤200→HasTy TT 61 t→HasTy TT 52 x→∀(Qf:OGP),Qf (.val (.d (.bool (typP (DD l) f (absTy t) (absPt x))))) g→EvF TT 30 [l,t,x,.int .i64 (f:Int)] g Qf
 |0,t,x,g,_,ht,hx=>by
  intro Qf hQ
  refine w30 hl ht hx (Br_iff.2 ⟨λ_=>hQ,λq=>?_⟩)
  have:=of_decide_eq_false q
  exact absurd (by decide) this
 |f+1,t,x,g,hf,ht,hx=>by
  intro Qf hQ
  obtain⟨k1,s1,n1,a1,rfl,hs1,t1⟩:=type_ty ht
  obtain⟨k2,s2,n2,a2,p2,rfl,hs2,t2⟩:=pat_ty hx
  have hab:absTy (.agg [.int .i64 k1,.str s1,.int .i64 n1,a1])=.mk k1 s1 n1 ((elsOf a1).map absTy):=by rw[←absTyA_map];rfl
  have hav:absPt (.agg [.int .i64 k2,.str s2,.int .i64 n2,a2,.int .i64 p2])=.mk k2 s2 n2 ((elsOf a2).map absPt) p2:=by rw[←absPtA_map];rfl
  have hix:tyIx (DD l) (.mk k1 s1 n1 ((elsOf a1).map absTy))=bif k1==4 then declIx s1 (DD l) 0 else -1:=rfl
  have ll:=len_le undDecls hl
  have l2:=len_le undPats t2
  have hkt:kTy (.mk k1 s1 n1 ((elsOf a1).map absTy))=k1:=rfl
  rw[hab,hav,typP,←isE,hkt] at hQ
  have g1:fld (.agg [.int .i64 k2,.str s2,.int .i64 n2,a2,.int .i64 p2]) 3=a2:=rfl
  have g2:fld (.agg [.int .i64 k1,.str s1,.int .i64 n1,a1]) 3=a1:=rfl
  obtain⟨I,hI⟩:∃I,I=tyIx (DD l) (.mk k1 s1 n1 ((elsOf a1).map absTy)):=⟨_,rfl⟩
  rw[←hI] at hQ hix
  -- a name that binds,or none
  have one:(k2==1)=true→Qf (.val (.d (.bool (((elsOf a2).length:Int)==0)))) g:=λq=>by rw[q] at hQ;exact hQ
  have two:(k2==2)=true→Qf (.val (.d (.bool (((elsOf a2).length:Int)==0)))) g:=λq=>by rw[q,Bool.or_true] at hQ;exact hQ
  have three:(k2==1)=false→(k2==2)=false→(k2==3)=true→Br (decide (I<0)) (Br (k1 !=3) (Qf (.val (.d (.bool (((elsOf a2).length:Int)==0)))) g) (Qf (.val (.d (.bool false))) g)) (Qf (.val (.d (.bool false))) g):=λq1 q2 q3=>by
   rw[q1,q2,q3] at hQ
   simp only[Bool.or_self,cond_false,cond_true] at hQ
   refine Br_iff.2 ⟨λq=>Br_iff.2 ⟨λq'=>?_,λq'=>?_⟩,λq=>?_⟩
   ·rw[q,show(!(k1==3))=true from q'] at hQ;exact hQ
   ·rw[q,show(!(k1==3))=false from q'] at hQ;exact hQ
   ·rw[q] at hQ;exact hQ
  have four:(k2==1)=false→(k2==2)=false→(k2==3)=false→∀n:Int,n=I→EvF TT 50 [l,Dat.str s2] g (KQ Qf λv g'=>∃n_1 n_2 b,RetT v [Dat.int IntKind.i64 n_1,Dat.int IntKind.i64 n_2,Dat.bool b]∧Br (!b) (Qf (Out.val (Val.d (Dat.bool false))) g') (Br (n_1 !=n) (Qf (Out.val (Val.d (Dat.bool false))) g') (InB n (elsOf l).length∧InB n_2 (elsOf (fld (getE (elsOf l) n) 2)).length∧Br ((↑(elsOf a2).length:Int)!=(↑(elsOf (fld (getE (elsOf (fld (getE (elsOf l) n) 2)) n_2) 1)).length:Int)) (Qf (Out.val (Val.d (Dat.bool false))) g') (L30_16 l ((f+1:Nat):Int) n n_2 0 (.agg [.int .i64 k2,.str s2,.int .i64 n2,a2,.int .i64 p2]) (.agg [.int .i64 k1,.str s1,.int .i64 n1,a1]) g' Qf)))):=λq1 q2 q3 n hn=>by
   rw[q1,q2,q3] at hQ
   simp only[Bool.or_self,cond_false] at hQ
   refine r14Find_ok l s2 g hl hs2 _ ⟨_,_,_,⟨rfl,rfl,rfl,trivial⟩,?_⟩
   have hD:(elsOf l).map absDc=DD l:=rfl
   rw[hD]
   rcases findDc_spec s2 (DD l) 0 with ⟨k,j,d,c,e1,e2,e3,_⟩|⟨e1,_⟩
   case inr=>
    rw[e1] at hQ⊢
    exact hQ
   rw[show(0:Int)+(k:Int)=(k:Int) from by omega] at e1
   rw[e1] at hQ⊢
   simp only[Bool.true_and] at hQ
   refine Br_iff.2 ⟨λq=>(by cases q),λ_=>Br_iff.2 ⟨λq=>?_,λq=>?_⟩⟩
   ·have:((k:Int)==I)=false:=by rw[←hn];simpa[bne] using q
    rw[this,Bool.false_and] at hQ
    exact hQ
   have hkI:(k:Int)=I:=by rw[←hn];simpa[bne] using q
   rw[hn]
   rw[←hkI] at hQ⊢
   rw[beq_self_eq_true,Bool.true_and,Int.toNat_natCast,e2] at hQ
   simp only[Int.toNat_natCast,e3] at hQ
   obtain⟨hi,td,ed,tc,ec⟩:=con_at hl e2
   have lc:=len_le undCons tc
   have hm:j<(elsOf (fld (elsOf l)[k] 2)).length:=by
    have:=(List.getElem?_eq_some_iff.1 e3).1
    rw[ec,List.length_map] at this
    exact this
   obtain⟨tf,ek,ef⟩:=cns_at tc hm
   rw[ec,ek] at e3
   obtain rfl:absCn (elsOf (fld (elsOf l)[k] 2))[j]=c:=by simpa using e3
   have lf:=len_le undTypes tf
   rw[ef,List.length_map,List.length_map] at hQ
   rw[getE_nat hi,getE_nat hm]
   refine⟨inB hi,inB hm,Br_iff.2 ⟨λq6=>?_,λq6=>?_⟩⟩
   ·have:((elsOf a2).length==(elsOf (fld (elsOf (fld (elsOf l)[k] 2))[j] 1)).length)=false:=by
     rw[beq_eq_false_iff_ne]
     intro e
     rw[e] at q6
     simp at q6
    rw[this] at hQ
    exact hQ
   have hlen:(elsOf a2).length=(elsOf (fld (elsOf (fld (elsOf l)[k] 2))[j] 1)).length:=by
    have q6:(((elsOf a2).length:Int)!=((elsOf (fld (elsOf (fld (elsOf l)[k] 2))[j] 1)).length:Int))=false:=q6
    simp only[bne,Bool.not_eq_false',beq_iff_eq] at q6
    omega
   rw[hlen,beq_self_eq_true,Bool.true_and] at hQ
   refine loopUp (len:=(elsOf a2).length) (λi=>Qf (.val (.d (.bool (all2 (λq v=>typP (DD l) f (fieldT d.ps ((elsOf a1).map absTy) q) v) (((elsOf (fld (elsOf (fld (elsOf l)[k] 2))[j] 1)).drop i).map absTy) (((elsOf a2).drop i).map absPt))))) g→L30_16 l ((f+1:Nat):Int) (k:Int) (j:Int) (i:Int) (.agg [.int .i64 k2,.str s2,.int .i64 n2,a2,.int .i64 p2]) (.agg [.int .i64 k1,.str s1,.int .i64 n1,a1]) g Qf) ?_ ?_ 0 (Nat.zero_le _) hQ
   ·intro hQ
    refine w30_16 ?_
    rw[g1,Br_ge]
    rw[List.drop_length,List.map_nil,all2_end] at hQ
    exact hQ
   ·intro i hi' ih hQ
    have hif:i<(elsOf (fld (elsOf (fld (elsOf l)[k] 2))[j] 1)).length:=by omega
    refine w30_16 ?_
    rw[all2_drop hif hi'] at hQ
    rw[g1,g2,Br_lt hi',getE_nat hi,getE_nat hm,getE_nat hif,getE_nat hi',step_left f (by omega),wrap_nat (by omega)]
    refine⟨inB hi,inB hi,inB hm,inB hif,field17_ok td t1 _ _ g (Nat.lt_succ_self _) ((tf.els undTypes).2 _ (List.getElem_mem hif)) _ λr hr er=>⟨r,hr,rfl,inB hi',?_⟩⟩
    refine typed17_ok hl f r _ g (by omega) hr ((t2.els undPats).2 _ (List.getElem_mem hi')) _ ⟨_,rfl,?_⟩
    rw[er,←ed]
    refine Br_iff.2 ⟨λq7=>?_,λq7=>ih ?_⟩
    ·rw[Bool.not_eq_true'] at q7
     rw[q7] at hQ
     exact hQ
    ·rw[Bool.not_eq_false'] at q7
     rw[q7,Bool.true_and] at hQ
     exact hQ
  refine w30 hl ht hx (Br_iff.2 ⟨λq=>by have:=of_decide_eq_true q;omega,λ_=>Br_iff.2 ⟨λq=>?_,λq=>?_⟩⟩)
  ·have q:(k1==4)=true:=q
   rw[q,cond_true] at hix
   refine decl14_ok (s:=s1) (D:=l) (l:=DD l) ⟨hl,rfl⟩ hs1 ⟨_,rfl,?_⟩
   have hI':declIx s1 ((elsOf l).map absDc) 0=I:=hix.symm
   rw[hix.symm]
   refine Br_iff.2 ⟨λq1=>Br_iff.2 ⟨λ_=>one q1,λq1'=>absurd (q1.symm.trans q1') (by decide)⟩,λq1=>Br_iff.2 ⟨λq2=>two q2,λq2=>Br_iff.2 ⟨λq3=>three q1 q2 q3,λq3=>four q1 q2 q3 _ rfl⟩⟩⟩
  ·have q:(k1==4)=false:=q
   rw[q,cond_false] at hix
   have hlt:decide (I<0)=true:=by rw[hix];rfl
   refine Br_iff.2 ⟨λq1=>Br_iff.2 ⟨λ_=>one q1,λq1'=>absurd (q1.symm.trans q1') (by decide)⟩,λq1=>Br_iff.2 ⟨λq2=>two q2,λq2=>Br_iff.2 ⟨λq3=>?_,λq3=>four q1 q2 q3 _ hix.symm⟩⟩⟩
   have:=three q1 q2 q3
   rw[hlt] at this
   exact this
theorem largeType_ok{x:Dat}{g:Glob}(hx:HasTy TT 61 x)(Qf:OGP)(hQ:∀b,Qf (.val (.d (.bool b))) g):EvF TT 27 [x] g Qf:=
 w27 hx (weighType_ok _ _ g _ _ (Nat.lt_succ_self _) hx _ λn=>⟨_,rfl,hQ _⟩)
end Go.Proofs.YtiheejdkkjfenaaGreatDoor.Pa
namespace Go.Proofs.YtiheejdkkjfenaaGreatDoor.Pa
open Go Go.Proofs.YtiheejdkkjfenaaGreatDoor.Am
theorem mayB_one{D:List Dc}{ps:List Pt}{rows:List (List Pt)}{p:Pt}(h:mayB D (colOf ps) 1=true)(hr:∀r∈rows,∃q∈ps,r=[q])(hp:p∈ps):InvU D 2097152 rows [p]:=by
 simp only[mayB,Bool.and_eq_true,List.all_eq_true,beq_iff_eq] at h
 obtain⟨_,_,h3⟩:=h
 have ok:∀q∈ps,okP D q=true:=λq hq=>fitB_ok D 1 q (h3 [q] (List.mem_map.2 ⟨q,hq,rfl⟩) q (by simp))
 refine⟨λr hr'=>?_,by simp,λx hx=>?_,λr hr' x hx=>?_⟩
 ·obtain⟨q,_,rfl⟩:=hr r hr';rfl
 ·simp only[List.mem_singleton] at hx;subst hx;exact ok _ hp
 ·obtain⟨q,hq,rfl⟩:=hr r hr';simp only[List.mem_singleton] at hx;subst hx;exact ok _ hq
def idleF(D:List Dc)(ps:List Pt):Nat→List Nat→List Pt→List Nat×Int
 |_,out,[]=>(out,0)
 |i,out,p::l=>bif (askedF D (colOf (ps.take i)) [p]).2==0 then idleF D ps (i+1) (bif (askedF D (colOf (ps.take i)) [p]).1 then out else out++[i]) l else([],(askedF D (colOf (ps.take i)) [p]).2)
def idleD(D:List Dc)(ps:List Pt):List Nat×Int:=bif mayB D (colOf ps) 1 then idleF D ps 0 [] ps else([],1)
def IdleAt(D:List Dc)(ps:List Pt)(j:Nat):Prop:=∃p,ps[j]?=some p∧askedF D (colOf (ps.take j)) [p]=(false,0)
theorem idleF_at(D:List Dc)(ps:List Pt):∀(l:List Pt) (i:Nat) (out:List Nat),l=ps.drop i→(∀j∈out,IdleAt D ps j)→∀j∈(idleF D ps i out l).1,IdleAt D ps j
 |[],i,out,hl,h,j,hj=>h j hj
 |p::l,i,out,hl,h,j,hj=>by
  have hi:i<ps.length:=by
   refine Classical.byContradiction λhn=>?_
   rw[List.drop_eq_nil_of_le (by omega)] at hl
   cases hl
  rw[List.drop_eq_getElem_cons hi] at hl
  obtain⟨hp,hl⟩:=List.cons.inj hl
  simp only[idleF] at hj
  cases he:((askedF D (colOf (ps.take i)) [p]).2==0) with
  |false=>rw[he] at hj;cases hj
  |true=>
   rw[he,cond_true] at hj
   refine idleF_at D ps l (i+1) _ hl ?_ j hj
   cases hb:(askedF D (colOf (ps.take i)) [p]).1 with
   |true=>exact h
   |false=>
    intro k hk
    rw[cond_false] at hk
    rcases List.mem_append.1 hk with hk|hk
    ·exact h k hk
    ·simp only[List.mem_singleton] at hk
     subst hk
     exact⟨p,by rw[List.getElem?_eq_getElem hi,hp],Prod.ext hb (eq_of_beq he)⟩
theorem idleD_at{D:List Dc}{ps:List Pt}{j:Nat}(h:j∈(idleD D ps).1):IdleAt D ps j:=by
 unfold idleD at h
 cases hm:mayB D (colOf ps) 1 with
 |false=>rw[hm] at h;cases h
 |true=>rw[hm] at h;exact idleF_at D ps ps 0 [] rfl (λj hj=>by cases hj) j h
def natD(l:List Nat):List Dat:=l.map λ(i:Nat)=>Dat.int .i64 (i:Int)
theorem fitRows(n:Nat)(h:n≤2^31):SlFit TT 24 n:=⟨by omega,λb' hb'=>by rw[byRow] at hb';cases hb';omega⟩
theorem sub_rows{X:Dat}(tX:HasTy TT 86 X){i:Nat}(hi:i≤(elsOf X).length)(hb:(elsOf X).length≤2^30):HasTy TT 86 (slSub 1 X (elsOf X) 0 (i:Int))∧rowsAbs (slSub 1 X (elsOf X) 0 (i:Int))=(rowsAbs X).take i:=by
 unfold slSub
 split
 ·rename_i h
  obtain rfl:i=(elsOf X).length:=by omega
  refine⟨tX,?_⟩
  rw[List.take_of_length_le (by rw[rowsAbs,List.length_map];exact Nat.le_refl _)]
 ·have e:((elsOf X).take (i:Int).toNat).drop (0:Int).toNat=(elsOf X).take i:=by rw[Int.toNat_natCast];rfl
  rw[e]
  refine⟨.sl _ _ _ _ undRows szRow (fitRows _ (by rw[List.length_take];omega)) λy hy=>(tX.els undRows).2 y (List.mem_of_mem_take hy),?_⟩
  show((elsOf X).take i).map rowAbs=((elsOf X).map rowAbs).take i
  rw[List.map_take]
theorem colTake(ps:List Pt)(i:Nat):(colOf ps).take i=colOf (ps.take i):=by unfold colOf;rw[List.map_take]
theorem idle_ok{l x:Dat}{g:Glob}(hl:HasTy TT 22 l)(hF:FewF (DD l) 2097152)(tx:HasTy TT 24 x)(hnl:(elsOf x).length≤2^30)(Qf:OGP)
 (hQ:∀g' us,Kp [] 0 g g'→RetL us [slOf 1 (natD (idleD (DD l) (rowAbs x)).1),.int .i64 (idleD (DD l) (rowAbs x)).2]→Qf (.val (.tuple us)) g'):EvF TT 19 [l,x] g Qf:=by
 refine w19 hl tx (column_ok tx _ λv X tX hv h0 hX=>⟨X,tX,hv,may_ok (cols:=1) hl tX _ λg1 k1=>⟨_,rfl,?_⟩⟩)
 have hX:rowsAbs X=colOf (rowAbs x):=hX
 have hXl:(elsOf X).length=(elsOf x).length:=by
  have:=congrArg List.length hX
  simpa[rowsAbs,rowAbs,colOf] using this
 have hxl:(rowAbs x).length=(elsOf x).length:=List.length_map _
 rw[hX]
 refine Br_iff.2 ⟨λq=>λus hu=>?_,λq=>?_⟩
 ·have q:mayB (DD l) (colOf (rowAbs x)) 1=false:=by simpa using q
  refine hQ g1 us k1 ?_
  unfold idleD
  rw[q]
  exact hu
 ·have q:mayB (DD l) (colOf (rowAbs x)) 1=true:=by simpa using q
  have hid:idleD (DD l) (rowAbs x)=idleF (DD l) (rowAbs x) 0 [] (rowAbs x):=by unfold idleD;rw[q];rfl
  rw[hid] at hQ
  refine loopUp (len:=(elsOf X).length) (λi=>∀(out:List Nat) (G:Glob),Kp [] 0 g G→out.length≤i→idleF (DD l) (rowAbs x) i out ((rowAbs x).drop i)=idleF (DD l) (rowAbs x) 0 [] (rowAbs x)→L19_6 l X (natD out) X ((elsOf X).length:Int) (i:Int) G Qf) ?_ ?_ 0 (Nat.zero_le _) [] g1 k1 (Nat.le_refl _) rfl
  ·intro out G k ho he
   refine w19_6 ?_
   rw[Br_ge]
   rw[hXl,←hxl,List.drop_length] at he
   intro us hu
   refine hQ G us k ?_
   rw[←he]
   exact hu
  ·intro i hi ih out G k ho he
   refine w19_6 ?_
   rw[Br_lt hi,getE_nat hi,wrap_nat (by omega)]
   have hix:i<(rowAbs x).length:=by omega
   have te:=(tX.els undRows).2 _ (List.getElem_mem hi)
   rw[fld_row te]
   have hrow:rowAbs (elsOf X)[i]=[(rowAbs x)[i]]:=by
    have e1:(rowsAbs X)[i]?=some (rowAbs (elsOf X)[i]):=by rw[rowsAbs,List.getElem?_map,List.getElem?_eq_getElem hi];rfl
    rw[hX,colOf,List.getElem?_map,List.getElem?_eq_getElem hix] at e1
    exact(Option.some.inj e1).symm
   obtain⟨ts,es⟩:=sub_rows tX (Nat.le_of_lt hi) (by omega)
   rw[hX,colTake] at es
   have hinv:InvU (DD l) 2097152 (colOf ((rowAbs x).take i)) [(rowAbs x)[i]]:=mayB_one q (λr hr=>by
    obtain⟨p,hp,rfl⟩:=List.mem_map.1 hr
    exact⟨p,List.mem_of_mem_take hp,rfl⟩) (List.getElem_mem hix)
   rw[List.drop_eq_getElem_cons hix,idleF] at he
   refine⟨inB hi,⟨Int.le_refl _,by omega,by omega⟩,asked_ok hl hF ts te (by rw[es,hrow];exact hinv) _ λG' k'=>⟨_,_,⟨rfl,rfl,trivial⟩,?_⟩⟩
   rw[es,hrow]
   obtain⟨A,hA⟩:∃A,A=askedF (DD l) (colOf ((rowAbs x).take i)) [(rowAbs x)[i]]:=⟨_,rfl⟩
   rw[←hA] at he⊢
   refine Br_iff.2 ⟨λq2 us hu=>?_,λq2=>?_⟩
   ·have q2:(A.2==0)=false:=by simpa[bne] using q2
    rw[q2,cond_false] at he
    refine hQ G' us (k.trans k') ?_
    rw[←he]
    exact hu
   ·have q2:(A.2==0)=true:=by simpa[bne] using q2
    rw[q2,cond_true] at he
    refine Br_iff.2 ⟨λq3=>⟨⟨by simp[natD];omega,by simp[natD];omega⟩,?_⟩,λq3=>?_⟩
    ·have q3:A.1=false:=by simpa using q3
     rw[q3,cond_false] at he
     have:=ih (out++[i]) G' (k.trans k') (by simp;omega) he
     unfold natD at this
     rw[List.map_append] at this
     exact this
    ·have q3:A.1=true:=by simpa using q3
     rw[q3,cond_true] at he
     exact ih out G' (k.trans k') (by omega) he
end Go.Proofs.YtiheejdkkjfenaaGreatDoor.Pa
