/- Useful: the law UsefulTrue. -/
import Derived.Test.YtiheejdkkjfenaaGreatDoorSL
set_option linter.all false
set_option autoImplicit false
set_option maxRecDepth 100000
namespace Go.Proofs.YtiheejdkkjfenaaGreatDoor.Pa
open Go Go.Proofs.YtiheejdkkjfenaaGreatDoor.Am
theorem col_ty{x:Dat}(h:HasTy TT 63 x):∃d k s n a r i m b,x=.agg [d,.int .i64 k,.str s,.int .i64 n,a,r,.bool i,.int .i64 m,b]∧HasTy TT 22 d∧HasTy TT 61 (.agg [.int .i64 k,.str s,.int .i64 n,a])∧HasTy TT 24 r∧HasTy TT 55 (.agg [.bool i,.int .i64 m,b]):=by
 obtain⟨cs,rfl,hc⟩:=struct_ty (tys:=[22,3,9,3,59,24,4,3,53]) (by kernel_rfl) (by kernel_rfl) h
 match cs,hc with
 |[c0,c1,c2,c3,c4,c5,c6,c7,c8],⟨h0,h1,h2,h3,h4,h5,h6,h7,h8,_⟩=>
  obtain⟨k,rfl⟩:=int_ty h1
  obtain⟨s,rfl,hs⟩:=str_ty h2
  obtain⟨n,rfl⟩:=int_ty h3
  obtain⟨i,rfl⟩:=bool_ty h6
  obtain⟨m,rfl⟩:=int_ty h7
  exact⟨c0,k,s,n,c4,c5,i,m,c8,rfl,h0,ty_type hs h4,h5,ty_val h8⟩
theorem undIntsV:TT.und 46=some (.slice 3):=by kernel_rfl
theorem szIntV:TT.size 3=some 1:=by kernel_rfl
theorem byIntV:TT.bytes 3=some 8:=by kernel_rfl
theorem idleF_len(D:List Dc)(ps:List Pt):∀(l:List Pt) (i:Nat) (out:List Nat),(idleF D ps i out l).1.length≤out.length+l.length
 |[],i,out=>Nat.le_refl _
 |p::l,i,out=>by
  simp only[idleF]
  cases (askedF D (colOf (ps.take i)) [p]).2==0 with
  |false=>exact Nat.zero_le _
  |true=>
   rw[cond_true]
   have:=idleF_len D ps l (i+1) (bif (askedF D (colOf (ps.take i)) [p]).1 then out else out++[i])
   have h2:(bif (askedF D (colOf (ps.take i)) [p]).1 then out else out++[i]).length≤out.length+1:=by
    cases (askedF D (colOf (ps.take i)) [p]).1<;>simp
   simp only[List.length_cons]
   omega
theorem idleD_len(D:List Dc)(ps:List Pt):(idleD D ps).1.length≤ps.length:=by
 unfold idleD
 cases mayB D (colOf ps) 1 with
 |false=>exact Nat.zero_le _
 |true=>simpa using idleF_len D ps ps 0 []
theorem natD_ty{l:List Nat}(h:l.length≤2^30):HasTy TT 46 (slOf 1 (natD l)):=
 slOf_ty undIntsV szIntV (fitOf byIntV (by omega) (by simpa[natD] using h)) λy hy=>by
  obtain⟨n,_,rfl⟩:=List.mem_map.1 hy
  exact ty_int
def Fst(D:List Dc)(ps:List Pt)(v:Vl)(i:Nat)(n:Int):Prop:=
 (n=-1∧∀j p,j<i→ps[j]?=some p→mtP D p v=false)∨∃(k:Nat) (p:Pt),n=(k:Int)∧ps[k]?=some p∧mtP D p v=true∧∀j p,j<k→ps[j]?=some p→mtP D p v=false
theorem usefulTrueLaw(x:Dat)(g:Glob)(hx:HasTy TT 63 x)(hb:StrB x)(Qf:OGP)(hQ:∀g',Qf (.val (.d (.bool true))) g'):EvF TT 6 [x] g Qf:=by
 have hwk:∀g,EvF TT 9 [] g (KQ Qf λv g'=>∃b,v=Val.d (Dat.bool b)∧Qf (Out.val (Val.d (Dat.bool b))) g'):=λg=>wakes_ok g _ ⟨_,rfl,hQ g⟩
 obtain⟨d,tk,ts,tn,ta,r,vi,vm,vb,rfl,td,tT,tr,tV⟩:=col_ty hx
 obtain⟨T,hT⟩:∃T,T=Dat.agg [.int .i64 tk,.str ts,.int .i64 tn,ta]:=⟨_,rfl⟩
 obtain⟨V,hV⟩:∃V,V=Dat.agg [.bool vi,.int .i64 vm,vb]:=⟨_,rfl⟩
 have sT:sub (Dat.agg [d,.int .i64 tk,.str ts,.int .i64 tn,ta,r,.bool vi,.int .i64 vm,vb]) 1 4=T:=by rw[hT];rfl
 have sV:sub (Dat.agg [d,.int .i64 tk,.str ts,.int .i64 tn,ta,r,.bool vi,.int .i64 vm,vb]) 6 3=V:=by rw[hV];rfl
 have sd:fld (Dat.agg [d,.int .i64 tk,.str ts,.int .i64 tn,ta,r,.bool vi,.int .i64 vm,vb]) 0=d:=rfl
 have sr:fld (Dat.agg [d,.int .i64 tk,.str ts,.int .i64 tn,ta,r,.bool vi,.int .i64 vm,vb]) 5=r:=rfl
 have sP:fld (Dat.agg [d,Dat.int IntKind.i64 0,Dat.str [],Dat.str [],Dat.int IntKind.i64 0,Dat.nil,Dat.nil,Dat.int IntKind.i64 0]) 0=d:=rfl
 have sb:StrB d:=strB_fld hb 0
 refine w6 hx ?_
 rw[sT,sV,sd,sr,sP]
 clear hx hb sT sV sd sr sP
 rw[←hT] at tT
 rw[←hV] at tV
 clear hT hV
 refine largeDecls_all d g td _ ⟨_,rfl,by rw[Br_true];exact hwk g⟩ λhs=>⟨_,rfl,?_⟩
 rw[Br_false]
 refine largeType_ok tT _ λb=>⟨_,rfl,Br_iff.2 ⟨λ_=>hwk g,λ_=>?_⟩⟩
 refine large17_ok d r g td tr _ ⟨_,rfl,by rw[Br_true];exact hwk g⟩ λ_ hrl=>⟨_,rfl,?_⟩
 rw[Br_false]
 refine largeVal_ok V g tV _ λb=>⟨_,rfl,Br_iff.2 ⟨λ_=>hwk g,λ_=>?_⟩⟩
 have tp:=ty_prog td (ty_expr (k:=0) (n:=0) (p:=0) (s:=[]) (r:=[]) (by simp) (by simp) ty_nilExprs ty_nilPats)
 have tp2:=ty_prog td (ty_expr (k:=2) (n:=0) (p:=0) (s:=[]) (r:=[]) (by simp) (by simp) ty_nilExprs ty_nilPats)
 have hn:(absPg (.agg [d,.int .i64 0,.str [],.str [],.int .i64 0,.nil,.nil,.int .i64 0])).ds.length≤2^22:=by
  rw[absPg_ds,List.length_map]
  have:=strB_len sb
  show(elsOf d).length≤_
  omega
 have sb2:StrB (.agg [d,.int .i64 2,.str [],.str [],.int .i64 0,.nil,.nil,.int .i64 0]):=.agg _ λc hc=>by
  simp only[List.mem_cons,List.not_mem_nil,or_false] at hc
  rcases hc with rfl|rfl|rfl|rfl|rfl|rfl|rfl|rfl
  ·exact sb
  ·exact .int _ _
  ·exact .str _ (by simp)
  ·exact .str _ (by simp)
  ·exact .int _ _
  ·exact .nil
  ·exact .nil
  ·exact .int _ _
 refine r14All_ok _ g tp hn _ λl hl el v hv=>⟨l,hl,hv,?_⟩
 have hp2:Pre (absPg (.agg [d,.int .i64 2,.str [],.str [],.int .i64 0,.nil,.nil,.int .i64 0])):=pre_of tp2 sb2 hs (by show szEx (.mk 2 [] [] 0 [] [] 0)≤20000;decide) (by show dpEx (.mk 2 [] [] 0 [] [] 0)≤601;decide)
 have hF2:=fewF_all tp2 sb2
 refine r14Check_ok tp2 hp2 λg1=>⟨_,_,⟨rfl,rfl,trivial⟩,Br_iff.2 ⟨λ_=>hwk g1,λq=>?_⟩⟩
 have hz:(chk14 (absPg (.agg [d,.int .i64 2,.str [],.str [],.int .i64 0,.nil,.nil,.int .i64 0]))).1=0:=by simpa[bne] using q
 have hDD:DD l=allDc (absPg (.agg [d,.int .i64 2,.str [],.str [],.int .i64 0,.nil,.nil,.int .i64 0])):=el
 have hu:ConU (DD l):=by rw[hDD];exact conU_all hz
 have hF:FewF (DD l) 2097152:=by rw[hDD];exact hF2
 clear q hz hDD hF2 hp2 sb2 el hn tp tp2
 refine fits17_ok hl 200 T V g1 (Nat.le_refl _) tT tV _ ⟨_,rfl,Br_iff.2 ⟨λ_=>hwk g1,λq=>?_⟩⟩
 have hfit:Fit (DD l) (absTy T) (absVl V):=⟨200,by simpa using q⟩
 clear q
 have er:=tr.els undPats
 have hlen:(rowAbs r).length=(elsOf r).length:=List.length_map _
 have at_:∀(i:Nat) (hi:i<(elsOf r).length),(rowAbs r)[i]?=some (absPt (elsOf r)[i]):=λi hi=>by
  rw[rowAbs,List.getElem?_map,List.getElem?_eq_getElem hi];rfl
 -- copies of what is declared,and of the rows
 have cpD:∀(G:Glob) (Q:OGP),(∀l',HasTy TT 22 l'→DD l'=DD l→∀v,RetV v l'→Q (.val v) G)→EvF TT 17 [l] G Q:=λG Q hQ=>
  copyDecls_ok l G hl _ λl' hl' hn' ha'=>hQ (slOf 4 l') (slOf_ty undDecls szDecl (by rw[hn'];exact(hl.els undDecls).1) hl') (by show(elsOf (slOf 4 l')).map absDc=_;rw[slOf_els,ha'];try rfl) _ (retOf_ret _ _)
 have cpP:∀(G:Glob) (Q:OGP),(∀r',HasTy TT 24 r'→rowAbs r'=rowAbs r→∀v,RetV v r'→Q (.val v) G)→EvF TT 18 [r] G Q:=λG Q hQ=>
  copyPats_ok _ r G (Nat.lt_succ_self _) tr _ λq hq hqn hqa=>hQ (slOf 5 q) (slOf_ty undPats szPat (by rw[hqn];exact er.1) hq) (by show(elsOf (slOf 5 q)).map absPt=_;rw[slOf_els,hqa];try rfl) _ (retOf_ret _ _)
 refine loopUp (len:=(elsOf r).length) (λi=>(∀j p,j<i→(rowAbs r)[j]?=some p→Typ (DD l) (absTy T) p)→L6_9 r l (i:Int) V T g1 Qf) ?_ ?_ 0 (Nat.zero_le _) (λj p h=>by omega)
 ·intro htyp
  have htyp:∀q∈rowAbs r,Typ (DD l) (absTy T) q:=λq hq=>by
   obtain⟨j,hj,e⟩:=List.getElem_of_mem hq
   exact htyp j q (by omega) (by rw[List.getElem?_eq_getElem hj,e])
  refine w6_9 ?_
  rw[Br_ge]
  refine cpD g1 _ λl1 hl1 e1 v1 r1=>⟨l1,hl1,r1,cpP g1 _ λx1 hx1 p1 v2 r2=>⟨x1,hx1,r2,?_⟩⟩
  have hxl:∀x1:Dat,rowAbs x1=rowAbs r→(elsOf x1).length≤60:=λx1 h=>by
   have:=congrArg List.length h
   rw[hlen,rowAbs,List.length_map] at this
   omega
  refine exh_all hl1 (by rw[e1];exact hF) hx1 (by have:=hxl x1 p1;omega) _ λg2 k2=>⟨_,_,⟨rfl,rfl,trivial⟩,?_⟩
  rw[e1,p1]
  refine cpD g2 _ λl2 hl2 e2 v3 r3=>⟨l2,hl2,r3,cpP g2 _ λx2 hx2 p2 v4 r4=>⟨x2,hx2,r4,?_⟩⟩
  refine idle_ok hl2 (by rw[e2];exact hF) hx2 (by have:=hxl x2 p2;omega) _ λg3 us k3 hus=>?_
  rw[e2,p2] at hus
  have hil:=idleD_len (DD l) (rowAbs r)
  refine⟨slOf 1 (natD (idleD (DD l) (rowAbs r)).1),natD_ty (by omega),(idleD (DD l) (rowAbs r)).2,hus,?_⟩
  obtain⟨O,hO⟩:∃O,O=(idleD (DD l) (rowAbs r)).1:=⟨_,rfl⟩
  obtain⟨F,hFe⟩:∃F,F=(idleD (DD l) (rowAbs r)).2:=⟨_,rfl⟩
  have hidle:∀j∈O,IdleAt (DD l) (rowAbs r) j:=λj hj=>idleD_at (by rw[←hO];exact hj)
  rw[←hO,←hFe]
  rw[←hO] at hil
  have hOl:(natD O).length=O.length:=List.length_map _
  -- the idle ones
  have idles:∀(n:Int) (G:Glob),Fst (DD l) (rowAbs r) (absVl V) (elsOf r).length n→L6_24 (slOf 1 (natD O)) F n 0 G Qf:=λn G hn=>by
   refine loopUp (len:=(natD O).length) (λi=>L6_24 (slOf 1 (natD O)) F n (i:Int) G Qf) ?_ ?_ 0 (Nat.zero_le _)
   ·refine w6_24 ?_
    rw[slOf_els,Br_ge]
    exact hwk G
   ·intro i hi ih
    have hio:i<O.length:=by omega
    refine w6_24 ?_
    rw[slOf_els,Br_lt hi,getE_nat hi,wrap_nat (by omega)]
    refine Br_iff.2 ⟨λ_=>⟨inB hi,Br_iff.2 ⟨λq=>?_,λ_=>ih⟩⟩,λ_=>hwk G⟩
    have hi2:(natD O)[i]=.int .i64 (O[i]:Int):=by simp[natD]
    rw[hi2] at q
    have q:(((O[i]:Nat):Int)==n)=true:=q
    have q:((O[i]:Nat):Int)=n:=eq_of_beq q
    exfalso
    obtain⟨p,hp1,hp2⟩:=hidle O[i] (List.getElem_mem hio)
    rcases hn with ⟨h1,_⟩|⟨k,p',h1,h2,h3,h4⟩
    ·omega
    ·obtain rfl:k=O[i]:=by omega
     rw[hp1] at h2
     cases h2
     obtain⟨y,hy1,hy2⟩:=asked_meets hu hfit (λq hq=>htyp q (List.mem_of_mem_take hq)) (htyp p (List.mem_of_getElem? hp1)) h3 hp2
     obtain⟨j,hj,e⟩:=List.getElem_of_mem hy1
     have hj1:j<O[i]:=by rw[List.length_take] at hj;omega
     have hj2:(rowAbs r)[j]?=some y:=by
      have:((rowAbs r).take O[i])[j]?=some y:=by rw[List.getElem?_eq_getElem hj,e]
      rw[List.getElem?_take,if_pos hj1] at this
      exact this
     have:=h4 j y hj1 hj2
     rw[hy2] at this
     cases this
  -- where the looking ends
  have last:∀(n:Int) (G:Glob),Fst (DD l) (rowAbs r) (absVl V) (elsOf r).length n→Br ((exhF (DD l) (rowAbs r)).2==0) (Br (exhF (DD l) (rowAbs r)).1 (Br (decide (n<0)) (Qf (Out.val (Val.d (Dat.bool false))) G) (L6_24 (slOf 1 (natD O)) F n 0 G Qf)) (L6_24 (slOf 1 (natD O)) F n 0 G Qf)) (L6_24 (slOf 1 (natD O)) F n 0 G Qf):=λn G hn=>by
   refine Br_iff.2 ⟨λ_=>Br_iff.2 ⟨λq=>Br_iff.2 ⟨λq2=>?_,λ_=>idles n G hn⟩,λ_=>idles n G hn⟩,λ_=>idles n G hn⟩
   exfalso
   have q2:n<0:=of_decide_eq_true q2
   obtain⟨y,hy1,hy2⟩:=exh_meets hu hfit htyp q
   rcases hn with ⟨_,h1⟩|⟨k,_,h1,_⟩
   ·obtain⟨j,hj,e⟩:=List.getElem_of_mem hy1
    have:=h1 j y (by omega) (by rw[List.getElem?_eq_getElem hj,e])
    rw[hy2] at this
    cases this
   ·omega
  refine loopUp (len:=(elsOf r).length) (λi=>∀n:Int,Fst (DD l) (rowAbs r) (absVl V) i n→L6_17 r l (exhF (DD l) (rowAbs r)).1 (exhF (DD l) (rowAbs r)).2 (slOf 1 (natD O)) F n (i:Int) V g3 Qf) ?_ ?_ 0 (Nat.zero_le _) (-1) (.inl ⟨rfl,λj p h=>by omega⟩)
  ·intro n hn
   refine w6_17 ?_
   rw[Br_ge]
   exact last n g3 hn
  ·intro i hi ih n hn
   refine w6_17 ?_
   rw[Br_lt hi,wrap_nat (by omega)]
   refine Br_iff.2 ⟨λq=>?_,λq=>?_⟩
   ·have q:n<0:=of_decide_eq_true q
    refine cpD g3 _ λl5 hl5 e5 v5 r5=>⟨l5,hl5,r5,cpP g3 _ λx5 hx5 p5 v6 r6=>⟨x5,hx5,r6,?_⟩⟩
    have hi5:i<(elsOf x5).length:=by
     have:=congrArg List.length p5
     rw[hlen,rowAbs,List.length_map] at this
     omega
    have hp5:absPt (elsOf x5)[i]=absPt (elsOf r)[i]:=by
     have h1:(rowAbs x5)[i]?=some (absPt (elsOf x5)[i]):=by rw[rowAbs,List.getElem?_map,List.getElem?_eq_getElem hi5];rfl
     rw[p5,at_ i hi] at h1
     exact(Option.some.inj h1).symm
    refine⟨inB hi5,copyVal_ok _ V g3 (Nat.lt_succ_self _) tV _ λw hw ew=>⟨w,hw,rfl,?_⟩⟩
    rw[getE_nat hi5]
    refine meets_ok _ _ _ _ g3 (Nat.lt_succ_self _) hl5 ((hx5.els undPats).2 _ (List.getElem_mem hi5)) hw _ ⟨_,rfl,?_⟩
    have e5':(elsOf l5).map absDc=DD l:=e5
    rw[e5',hp5,ew]
    rcases hn with ⟨h1,h2⟩|⟨k,_,h1,_⟩
    ·refine Br_iff.2 ⟨λq2=>ih _ (.inr ⟨i,_,rfl,at_ i hi,q2,h2⟩),λq2=>ih _ (.inl ⟨h1,λj p hj hp=>?_⟩)⟩
     rcases Nat.lt_succ_iff_lt_or_eq.1 hj with hj|rfl
     ·exact h2 j p hj hp
     ·rw[at_ _ hi] at hp
      cases hp
      exact q2
    ·omega
   ·have q:¬n<0:=of_decide_eq_false q
    refine last n g3 ?_
    rcases hn with ⟨h1,_⟩|hn
    ·omega
    ·exact .inr hn
 ·intro i hi ih htyp
  refine w6_9 ?_
  rw[Br_lt hi,getE_nat hi,wrap_nat (by omega)]
  refine⟨inB hi,Br_iff.2 ⟨λ_=>hwk g1,λ_=>⟨inB hi,Br_iff.2 ⟨λ_=>hwk g1,λ_=>⟨inB hi,?_⟩⟩⟩⟩⟩
  refine typed17_ok hl 200 T _ g1 (Nat.le_refl _) tT (er.2 _ (List.getElem_mem hi)) _ ⟨_,rfl,Br_iff.2 ⟨λ_=>hwk g1,λq=>ih λj p hj hp=>?_⟩⟩
  rcases Nat.lt_succ_iff_lt_or_eq.1 hj with hj|rfl
  ·exact htyp j p hj hp
  ·rw[at_ _ hi] at hp
   cases hp
   exact⟨200,by simpa using q⟩
end Go.Proofs.YtiheejdkkjfenaaGreatDoor.Pa
