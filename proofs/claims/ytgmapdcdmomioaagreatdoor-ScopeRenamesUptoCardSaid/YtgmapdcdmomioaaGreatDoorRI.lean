/- Limits of programs, and which may have been read: the program's tests, the document's. Limits as the document has them; which declared types and programs may be. What functions of the program do, printed by wip/tools/sx/sx.py. The document's Check told; the law ParseChecks answers true. -/
import Derived.Test.YtgmapdcdmomioaaGreatDoorRH
import Derived.Test.YtgmapdcdmomioaaGreatDoorRD
set_option linter.all false
set_option autoImplicit false
set_option maxRecDepth 100000
namespace Go.Proofs.YtgmapdcdmomioaaGreatDoor.Pa
open Go Go.Proofs.YtgmapdcdmomioaaGreatDoor.Am
def gtI(m n:Int):Bool:=decide (m<n)
def badCn(c:Cn):Bool:=gtI 8 c.fs.length
def badDc(d:Dc):Bool:=gtI 4 d.ps.length||(gtI 32 d.cs.length||d.cs.any badCn)
def dpCns:List Cn→Nat
 |[]=>0
 |c::l=>max (dpTys c.fs) (dpCns l)
def dpDcs:List Dc→Nat
 |[]=>0
 |d::l=>max (dpCns d.cs) (dpDcs l)
def limF(nw:Bool)(P:Pg):Int:=
 bif gtI 32 P.ds.length||(gtI 2048 (upto 0 (szEx P.e))||!nw) then 3 else bif P.ds.any badDc then 3 else bif gtI 256 ((max (dpEx P.e) (dpDcs P.ds):Nat):Int) then 4 else 0
structure Pre(P:Pg):Prop where
 ds:∀d∈P.ds,(∀s∈d.ps,s.length<2^40)∧∀c∈d.cs,∀t∈c.fs,ndTy t≤20000∧dpTy t≤20000∧vrTy t=true
 sz:szEx P.e≤20000
 dp:dpEx P.e≤20000
theorem absCn_fs(x:Dat):(absCn x).fs=(elsOf (fld x 1)).map absTy:=absTyA_map _
theorem absCn_len(x:Dat):(absCn x).fs.length=(elsOf (fld x 1)).length:=by rw[absCn_fs,List.length_map]
theorem absDc_cs(x:Dat):(absDc x).cs=(elsOf (fld x 2)).map absCn:=rfl
theorem absDc_ps(x:Dat):(absDc x).ps=(elsOf (fld x 1)).map strOf:=rfl
theorem dpTys_le{l:List Ty}{n:Nat}(h:∀t∈l,dpTy t≤n):dpTys l≤n:=by induction l with
 |nil=>exact Nat.zero_le _
 |cons t l ih=>
  have h1:=h t List.mem_cons_self
  have h2:=ih λt ht=>h t (List.mem_cons_of_mem _ ht)
  simp only[dpTys]
  omega
theorem dpCns_le{l:List Cn}{n:Nat}(h:∀c∈l,∀t∈c.fs,dpTy t≤n):dpCns l≤n:=by induction l with
 |nil=>exact Nat.zero_le _
 |cons c l ih=>
  have h1:=dpTys_le (h c List.mem_cons_self)
  have h2:=ih λt ht=>h t (List.mem_cons_of_mem _ ht)
  simp only[dpCns]
  omega
theorem drop_map_cons{α β:Type}{f:α→β}{xs:List α}{i:Nat}(hi:i<xs.length):(xs.drop i).map f=f xs[i]::(xs.drop (i+1)).map f:=by
 rw[List.drop_eq_getElem_cons hi,List.map_cons]
section
variable{g:Glob}{Qf:OGP}
theorem limTypes{f1:Dat}(hf:HasTy TT 89 f1){x63 x70:Dat}{n64 n65 n71 n72:Int}:∀m:Nat,m≤20000→dpTys ((elsOf f1).map absTy)≤20000→L47_20 ((max m (dpTys ((elsOf f1).map absTy)):Nat):Int) x63 n64 n65 x70 n71 (IntKind.i64.wrap (n72+1)) g Qf→L47_23 (m:Int) x63 n64 n65 x70 n71 n72 f1 ((elsOf f1).length:Int) 0 g Qf:=by
 have ef:=hf.els undTypes
 have efl:=ef.1.1
 intro m hm hd hQ
 refine loopUp (len:=(elsOf f1).length) (λi=>∀m:Nat,m≤20000→dpTys (((elsOf f1).drop i).map absTy)≤20000→L47_20 ((max m (dpTys (((elsOf f1).drop i).map absTy)):Nat):Int) x63 n64 n65 x70 n71 (IntKind.i64.wrap (n72+1)) g Qf→L47_23 (m:Int) x63 n64 n65 x70 n71 n72 f1 ((elsOf f1).length:Int) (i:Int) g Qf) ?_ ?_ 0 (Nat.zero_le _) m hm hd hQ
 ·intro m hm hd hQ
  refine w47_23 ?_
  rw[Br_ge]
  rw[List.drop_length] at hQ
  simpa[dpTys] using hQ
 ·intro i hi ih m hm hd hQ
  refine w47_23 ?_
  rw[Br_lt hi,getE_nat hi]
  rw[dpTys_drop hi] at hd hQ
  refine⟨inB hi,typeDeep_ok _ _ g (Nat.lt_succ_self _) (ef.2 _ (List.getElem_mem hi)) (by omega) _ ⟨_,rfl,?_⟩⟩
  rw[wrap_nat (by omega),maxS_nat]
  exact ih _ (by omega) (by omega) (by rw[Nat.max_assoc];exact hQ)
theorem limCons{b1:Dat}(hb:HasTy TT 74 b1){x63:Dat}{n64 n65:Int}:∀m:Nat,m≤20000→dpCns ((elsOf b1).map absCn)≤20000→L47_17 ((max m (dpCns ((elsOf b1).map absCn)):Nat):Int) x63 n64 (IntKind.i64.wrap (n65+1)) g Qf→L47_20 (m:Int) x63 n64 n65 b1 ((elsOf b1).length:Int) 0 g Qf:=by
 have eb:=hb.els undCons
 have ebl:=eb.1.1
 intro m hm hd hQ
 refine loopUp (len:=(elsOf b1).length) (λi=>∀m:Nat,m≤20000→dpCns (((elsOf b1).drop i).map absCn)≤20000→L47_17 ((max m (dpCns (((elsOf b1).drop i).map absCn)):Nat):Int) x63 n64 (IntKind.i64.wrap (n65+1)) g Qf→L47_20 (m:Int) x63 n64 n65 b1 ((elsOf b1).length:Int) (i:Int) g Qf) ?_ ?_ 0 (Nat.zero_le _) m hm hd hQ
 ·intro m hm hd hQ
  refine w47_20 ?_
  rw[Br_ge]
  rw[List.drop_length] at hQ
  simpa[dpCns] using hQ
 ·intro i hi ih m hm hd hQ
  refine w47_20 ?_
  rw[Br_lt hi,getE_nat hi]
  rw[drop_map_cons hi,dpCns,absCn_fs] at hd hQ
  obtain⟨s2,f1,e2,_,hf1⟩:=con_ty (eb.2 _ (List.getElem_mem hi))
  rw[e2] at hd hQ⊢
  have hf:fld (Dat.agg [.str s2,f1]) 1=f1:=rfl
  rw[hf] at hd hQ⊢
  refine⟨inB hi,limTypes hf1 m hm (by omega) ?_⟩
  rw[wrap_nat (by omega)]
  exact ih _ (by omega) (by omega) (by rw[Nat.max_assoc];exact hQ)
theorem limDeep{d1:Dat}(hd:HasTy TT 23 d1):∀m:Nat,m≤20000→dpDcs ((elsOf d1).map absDc)≤20000→Qf (.val (.d (.int .i64 (bif gtI 256 ((max m (dpDcs ((elsOf d1).map absDc)):Nat):Int) then 4 else 0)))) g→L47_17 (m:Int) d1 ((elsOf d1).length:Int) 0 g Qf:=by
 have ed:=hd.els undDecls
 have edl:=ed.1.1
 intro m hm hdp hQ
 refine loopUp (len:=(elsOf d1).length) (λi=>∀m:Nat,m≤20000→dpDcs (((elsOf d1).drop i).map absDc)≤20000→Qf (.val (.d (.int .i64 (bif gtI 256 ((max m (dpDcs (((elsOf d1).drop i).map absDc)):Nat):Int) then 4 else 0)))) g→L47_17 (m:Int) d1 ((elsOf d1).length:Int) (i:Int) g Qf) ?_ ?_ 0 (Nat.zero_le _) m hm hdp hQ
 ·intro m hm hdp hQ
  refine w47_17 ?_
  rw[Br_ge]
  rw[List.drop_length] at hQ
  simp only[List.map_nil,dpDcs,Nat.max_zero] at hQ
  refine Br_iff.2 ⟨λq=>?_,λq=>?_⟩
  ·rw[show gtI 256 _=true from q] at hQ;exact hQ
  ·rw[show gtI 256 _=false from q] at hQ;exact hQ
 ·intro i hi ih m hm hdp hQ
  refine w47_17 ?_
  rw[Br_lt hi,getE_nat hi]
  rw[drop_map_cons hi,dpDcs,absDc_cs] at hdp hQ
  obtain⟨s2,a2,b2,p2,e2,_,ha2,hb2⟩:=decl_ty (ed.2 _ (List.getElem_mem hi))
  rw[e2] at hdp hQ⊢
  have hf:fld (Dat.agg [.str s2,a2,b2,.int .i64 p2]) 2=b2:=rfl
  rw[hf] at hdp hQ⊢
  refine⟨inB hi,limCons hb2 m hm (by omega) ?_⟩
  rw[wrap_nat (by omega)]
  exact ih _ (by omega) (by omega) (by rw[Nat.max_assoc];exact hQ)
theorem limBad{d1 y:Dat}(hd:HasTy TT 23 d1)(hT:(((elsOf d1).map absDc).any badDc=true)→Qf (.val (.d (.int .i64 3))) g)(hF:(((elsOf d1).map absDc).any badDc=false)→EvF TT 104 [sub y 1 7] g (KQ Qf λv g'=>∃n,v=Val.d (.int .i64 n)∧L47_17 n (fld y 0) ((elsOf (fld y 0)).length:Int) 0 g' Qf)):L47_4 d1 ((elsOf d1).length:Int) 0 y g Qf:=by
 have ed:=hd.els undDecls
 have edl:=ed.1.1
 refine loopUp (len:=(elsOf d1).length) (λi=>((((elsOf d1).drop i).map absDc).any badDc=true→Qf (.val (.d (.int .i64 3))) g)→((((elsOf d1).drop i).map absDc).any badDc=false→EvF TT 104 [sub y 1 7] g (KQ Qf λv g'=>∃n,v=Val.d (.int .i64 n)∧L47_17 n (fld y 0) ((elsOf (fld y 0)).length:Int) 0 g' Qf))→L47_4 d1 ((elsOf d1).length:Int) (i:Int) y g Qf) ?_ ?_ 0 (Nat.zero_le _) hT hF
 ·intro hT hF
  refine w47_4 ?_
  rw[Br_ge]
  exact hF (by rw[List.drop_length];rfl)
 ·intro i hi ih hT hF
  refine w47_4 ?_
  rw[Br_lt hi,getE_nat hi]
  rw[drop_map_cons hi,List.any_cons] at hT hF
  obtain⟨s2,a2,b2,p2,e2,_,ha2,hb2⟩:=decl_ty (ed.2 _ (List.getElem_mem hi))
  have eb:=hb2.els undCons
  have ebl:=eb.1.1
  have hbad:badDc (absDc (elsOf d1)[i])=(gtI 4 ((elsOf a2).length:Int)||(gtI 32 ((elsOf b2).length:Int)||((elsOf b2).map absCn).any badCn)):=by
   rw[e2]
   unfold badDc
   rw[absDc_ps,absDc_cs,List.length_map,List.length_map]
   rfl
  rw[hbad] at hT hF
  rw[e2]
  refine⟨inB hi,Br_iff.2 ⟨λq=>hT (by rw[show gtI 4 ((elsOf a2).length:Int)=true from q];rfl),λq=>Br_iff.2 ⟨λq'=>hT (by rw[show gtI 32 ((elsOf b2).length:Int)=true from q'];simp),λq'=>?_⟩⟩⟩
  rw[show gtI 4 ((elsOf a2).length:Int)=false from q,show gtI 32 ((elsOf b2).length:Int)=false from q'] at hT hF
  simp only[Bool.false_or] at hT hF
  have hf:fld (Dat.agg [.str s2,a2,b2,.int .i64 p2]) 2=b2:=rfl
  rw[hf]
  refine loopUp (len:=(elsOf b2).length) (λj=>(((((elsOf b2).drop j).map absCn).any badCn||(((elsOf d1).drop (i+1)).map absDc).any badDc)=true→Qf (.val (.d (.int .i64 3))) g)→(((((elsOf b2).drop j).map absCn).any badCn||(((elsOf d1).drop (i+1)).map absDc).any badDc)=false→EvF TT 104 [sub y 1 7] g (KQ Qf λv g'=>∃n,v=Val.d (.int .i64 n)∧L47_17 n (fld y 0) ((elsOf (fld y 0)).length:Int) 0 g' Qf))→L47_9 d1 ((elsOf d1).length:Int) (i:Int) b2 ((elsOf b2).length:Int) (j:Int) y g Qf) ?_ ?_ 0 (Nat.zero_le _) hT hF
  ·intro hT hF
   refine w47_9 ?_
   rw[Br_ge,wrap_nat (by omega)]
   rw[List.drop_length] at hT hF
   exact ih (λh=>hT (by rw[h];rfl)) (λh=>hF (by rw[h];rfl))
  ·intro j hj ihj hT hF
   refine w47_9 ?_
   rw[Br_lt hj,getE_nat hj]
   rw[drop_map_cons hj,List.any_cons,Bool.or_assoc] at hT hF
   have hc:badCn (absCn (elsOf b2)[j])=gtI 8 ((elsOf (fld (elsOf b2)[j] 1)).length:Int):=by
    unfold badCn
    rw[absCn_len]
   rw[hc] at hT hF
   refine⟨inB hj,Br_iff.2 ⟨λq=>hT (by rw[show gtI 8 ((elsOf (fld (elsOf b2)[j] 1)).length:Int)=true from q];rfl),λq=>?_⟩⟩
   rw[show gtI 8 ((elsOf (fld (elsOf b2)[j] 1)).length:Int)=false from q] at hT hF
   simp only[Bool.false_or] at hT hF
   rw[wrap_nat (by omega)]
   exact ihj hT hF
theorem limited_ok{x:Dat}(hx:HasTy TT 29 x)(hp:Pre (absPg x))(hQ:Qf (.val (.d (.int .i64 (limF (nwEx (absPg x).e) (absPg x))))) g):EvF TT 47 [x] g Qf:=by
 refine w47 hx ?_
 unfold limF at hQ
 have hpd:=hp.ds
 have hpe:=hp.dp
 obtain⟨d1,k1,s1,r1,n1,a1,b1,p1,rfl,hd1,he1⟩:=prog_ty hx
 have e0:(absPg (.agg [d1,.int .i64 k1,.str s1,.str r1,.int .i64 n1,a1,b1,.int .i64 p1])).ds=(elsOf d1).map absDc:=rfl
 have e1:(absPg (.agg [d1,.int .i64 k1,.str s1,.str r1,.int .i64 n1,a1,b1,.int .i64 p1])).e=absEx (.agg [.int .i64 k1,.str s1,.str r1,.int .i64 n1,a1,b1,.int .i64 p1]):=rfl
 rw[e0] at hpd
 have hdd:dpDcs ((elsOf d1).map absDc)≤20000:=by
  have:∀l:List Dc,(∀d∈l,∀c∈d.cs,∀t∈c.fs,dpTy t≤20000)→dpDcs l≤20000:=by
   intro l
   induction l with
   |nil=>intro _;exact Nat.zero_le _
   |cons d l ih=>
    intro h
    have h1:=dpCns_le (h d List.mem_cons_self)
    have h2:=ih λd hd=>h d (List.mem_cons_of_mem _ hd)
    simp only[dpDcs]
    omega
  exact this _ λd hd c hc t ht=>((hpd d hd).2 c hc t ht).2.1
 rw[e0,List.length_map] at hQ
 refine Br_iff.2 ⟨λq=>?_,λq=>parseSize_ok _ g hx _ ⟨_,rfl,Br_iff.2 ⟨λq'=>?_,λq'=>narrow_ok _ _ g (Nat.lt_succ_self _) he1 _ ⟨_,rfl,Br_iff.2 ⟨λq2=>?_,λq2=>?_⟩⟩⟩⟩⟩
 ·rw[show gtI 32 ((elsOf d1).length:Int)=true from q] at hQ
  exact hQ
 ·rw[show gtI 2048 _=true from q'] at hQ
  simpa using hQ
 ·rw[e1,show nwEx _=false by simpa using q2] at hQ
  simpa using hQ
 ·rw[show gtI 32 ((elsOf d1).length:Int)=false from q,show gtI 2048 _=false from q',e1,show nwEx _=true by simpa using q2] at hQ
  simp only[Bool.not_true,Bool.or_false,cond_false] at hQ
  refine limBad hd1 (λh=>?_) (λh=>deep_ok _ _ g (Nat.lt_succ_self _) he1 hpe _ ⟨_,rfl,limDeep hd1 _ hpe hdd ?_⟩)
  ·rw[show((elsOf d1).map absDc).any badDc=true from h] at hQ;exact hQ
  ·rw[show((elsOf d1).map absDc).any badDc=false from h] at hQ;exact hQ
end
end Go.Proofs.YtgmapdcdmomioaaGreatDoor.Pa
namespace Go.Proofs.YtgmapdcdmomioaaGreatDoor.Pa
open Go Go.Proofs.YtgmapdcdmomioaaGreatDoor.Am
def g256(n:Nat):Bool:=decide (256<n)
theorem g256_max(a b:Nat):g256 (max a b)=(g256 a||g256 b):=by
 unfold g256
 rw[Bool.eq_iff_iff]
 simp only[Bool.or_eq_true,decide_eq_true_eq]
 omega
theorem gtI_256(n:Nat):gtI 256 (n:Int)=g256 n:=by
 unfold gtI g256
 exact decide_eq_decide.2 (by omega)
section
variable{g:Glob}{Qf:OGP}
def lim3(bad deep:Bool):Int:=bif bad then 3 else bif deep then 4 else 0
theorem rlimTypes{y5 y1 c1 f1:Dat}{q n4:Nat}(hq:q<(elsOf (fld y5 2)).length)(hc:(elsOf (fld y5 2))[q]=c1)(hf1:fld c1 1=f1)(hf:HasTy TT 89 f1)(b:Bool)(h:L52_11 (b||g256 (dpTys ((elsOf f1).map absTy))) (n4:Int) (IntKind.i64.wrap ((q:Int)+1)) y5 y1 g Qf):
 L52_16 b (n4:Int) (q:Int) 0 y5 y1 g Qf:=by
 have ef:=hf.els undTypes
 have efl:=ef.1.1
 refine loopUp (len:=(elsOf f1).length) (λi=>∀b:Bool,L52_11 (b||g256 (dpTys (((elsOf f1).drop i).map absTy))) (n4:Int) (IntKind.i64.wrap ((q:Int)+1)) y5 y1 g Qf→L52_16 b (n4:Int) (q:Int) (i:Int) y5 y1 g Qf) ?_ ?_ 0 (Nat.zero_le _) b h
 ·intro b h
  refine w52_16 ⟨inB hq,?_⟩
  rw[getE_nat hq,hc,hf1,Br_ge]
  rw[List.drop_length] at h
  rw[show(b||g256 (dpTys (([]:List Dat).map absTy)))=b by cases b<;>rfl] at h
  exact h
 ·intro i hi ih b h
  refine w52_16 ⟨inB hq,?_⟩
  rw[getE_nat hq,hc,hf1,Br_lt hi]
  rw[dpTys_drop hi,g256_max,←Bool.or_assoc] at h
  cases b with
  |true=>
   rw[wrap_nat (by omega)]
   exact ih true (by simpa using h)
  |false=>
   refine⟨inB hq,inB hi,?_⟩
   rw[getE_nat hi]
   refine deepType_ok _ _ g 256 (Nat.lt_succ_self _) (ef.2 _ (List.getElem_mem hi)) (by omega) _ ⟨_,rfl,?_⟩
   rw[wrap_nat (by omega)]
   exact ih _ h
theorem limits_ok{x:Dat}(hx:HasTy TT 29 x)(hQ:Qf (.val (.d (.int .i64 (limF (!flEx (absPg x).e) (absPg x))))) g):EvF TT 52 [x] g Qf:=by
 refine w52 hx ?_
 unfold limF at hQ
 obtain⟨d1,k1,s1,r1,n1,a1,b1,p1,rfl,hd1,he1⟩:=prog_ty hx
 have e0:(absPg (.agg [d1,.int .i64 k1,.str s1,.str r1,.int .i64 n1,a1,b1,.int .i64 p1])).ds=(elsOf d1).map absDc:=rfl
 have e1:(absPg (.agg [d1,.int .i64 k1,.str s1,.str r1,.int .i64 n1,a1,b1,.int .i64 p1])).e=absEx (.agg [.int .i64 k1,.str s1,.str r1,.int .i64 n1,a1,b1,.int .i64 p1]):=rfl
 rw[e0,List.length_map,gtI_256,Bool.not_not] at hQ
 refine Br_iff.2 ⟨λq=>?_,λq=>refSize_ok _ g hx _ ⟨_,rfl,Br_iff.2 ⟨λq'=>?_,λq'=>fullExpr_ok _ _ g (Nat.lt_succ_self _) he1 _ ⟨_,rfl,Br_iff.2 ⟨λq2=>?_,λq2=>deepExpr_ok _ _ g 256 (Nat.lt_succ_self _) he1 (by omega) _ ⟨_,rfl,?_⟩⟩⟩⟩⟩⟩
 ·rw[show gtI 32 ((elsOf d1).length:Int)=true from q] at hQ
  exact hQ
 ·rw[show gtI 2048 _=true from q'] at hQ
  simpa using hQ
 ·rw[e1,q2] at hQ
  simpa using hQ
 ·rw[show gtI 32 ((elsOf d1).length:Int)=false from q,show gtI 2048 _=false from q',e1,q2] at hQ
  simp only[Bool.or_false,cond_false] at hQ
  have ed:=hd1.els undDecls
  have edl:=ed.1.1
  have hQ:Qf (.val (.d (.int .i64 (lim3 (((elsOf d1).map absDc).any badDc) (decide (256<dpEx (absEx (.agg [.int .i64 k1,.str s1,.str r1,.int .i64 n1,a1,b1,.int .i64 p1])))||g256 (dpDcs ((elsOf d1).map absDc))))))) g:=qint hQ (by
   rw[g256_max]
   rfl)
  have h0:fld (.agg [d1,.int .i64 k1,.str s1,.str r1,.int .i64 n1,a1,b1,.int .i64 p1]) 0=d1:=rfl
  generalize decide (256<dpEx (absEx (.agg [.int .i64 k1,.str s1,.str r1,.int .i64 n1,a1,b1,.int .i64 p1])))=b at hQ
  generalize hY:Dat.agg [d1,.int .i64 k1,.str s1,.str r1,.int .i64 n1,a1,b1,.int .i64 p1]=Y at h0
  clear hY
  refine loopUp (len:=(elsOf d1).length) (λi=>∀b:Bool,Qf (.val (.d (.int .i64 (lim3 ((((elsOf d1).drop i).map absDc).any badDc) (b||g256 (dpDcs (((elsOf d1).drop i).map absDc))))))) g→L52_5 b (i:Int) Y g Qf) ?_ ?_ 0 (Nat.zero_le _) b hQ
  ·intro b hQ
   refine w52_5 ?_
   rw[h0,Br_ge]
   rw[List.drop_length] at hQ
   cases b
   ·exact hQ
   ·exact hQ
  ·intro i hi ih b hQ
   refine w52_5 ?_
   rw[h0,Br_lt hi,getE_nat hi]
   rw[drop_map_cons hi,List.any_cons,dpDcs,absDc_cs,g256_max] at hQ
   have ht:=ed.2 _ (List.getElem_mem hi)
   obtain⟨s2,a2,b2,p2,e2,_,ha2,hb2⟩:=decl_ty ht
   have eb:=hb2.els undCons
   have ebl:=eb.1.1
   have hbad:badDc (absDc (elsOf d1)[i])=(gtI 4 ((elsOf a2).length:Int)||(gtI 32 ((elsOf b2).length:Int)||((elsOf b2).map absCn).any badCn)):=by
    rw[e2]
    unfold badDc
    rw[absDc_ps,absDc_cs,List.length_map,List.length_map]
    rfl
   rw[hbad] at hQ
   rw[e2] at hQ⊢
   have hf:fld (Dat.agg [.str s2,a2,b2,.int .i64 p2]) 2=b2:=rfl
   have hf':fld (Dat.agg [.str s2,a2,b2,.int .i64 p2]) 1=a2:=rfl
   rw[hf] at hQ
   rw[hf,hf']
   generalize Dat.agg [.str s2,a2,b2,.int .i64 p2]=D at hf
   refine⟨inB hi,Br_iff.2 ⟨λq=>?_,λq=>Br_iff.2 ⟨λq'=>?_,λq'=>?_⟩⟩⟩
   ·rw[show gtI 4 ((elsOf a2).length:Int)=true from q] at hQ;exact hQ
   ·rw[show gtI 32 ((elsOf b2).length:Int)=true from q'] at hQ
    exact qint hQ (by simp[lim3])
   ·rw[show gtI 4 ((elsOf a2).length:Int)=false from q,show gtI 32 ((elsOf b2).length:Int)=false from q'] at hQ
    simp only[Bool.false_or] at hQ
    refine loopUp (len:=(elsOf b2).length) (λj=>∀b:Bool,Qf (.val (.d (.int .i64 (lim3 ((((elsOf b2).drop j).map absCn).any badCn||(((elsOf d1).drop (i+1)).map absDc).any badDc) (b||(g256 (dpCns (((elsOf b2).drop j).map absCn))||g256 (dpDcs (((elsOf d1).drop (i+1)).map absDc)))))))) g→L52_11 b (i:Int) (j:Int) D Y g Qf) ?_ ?_ 0 (Nat.zero_le _) b hQ
    ·intro b hQ
     refine w52_11 ?_
     rw[hf,Br_ge,wrap_nat (by omega)]
     rw[List.drop_length] at hQ
     exact ih b hQ
    ·intro j hj ihj b hQ
     have hj':j<(elsOf (fld D 2)).length:=by rw[hf];exact hj
     refine w52_11 ?_
     rw[Br_lt hj',getE_nat hj']
     rw[drop_map_cons hj,List.any_cons,dpCns,absCn_fs,g256_max] at hQ
     have hcj:(elsOf (fld D 2))[j]=(elsOf b2)[j]:=by simp only[hf]
     rw[hcj]
     obtain⟨s3,f1,e3,_,hf1⟩:=con_ty (eb.2 _ (List.getElem_mem hj))
     have hc:badCn (absCn (elsOf b2)[j])=gtI 8 ((elsOf f1).length:Int):=by
      unfold badCn
      rw[absCn_len,e3]
      rfl
     rw[hc] at hQ
     rw[e3] at hQ hcj⊢
     have hf2:fld (Dat.agg [.str s3,f1]) 1=f1:=rfl
     rw[hf2] at hQ
     rw[hf2]
     refine⟨inB hj',Br_iff.2 ⟨λq=>?_,λq=>?_⟩⟩
     ·rw[show gtI 8 ((elsOf f1).length:Int)=true from q] at hQ;exact hQ
     ·rw[show gtI 8 ((elsOf f1).length:Int)=false from q] at hQ
      simp only[Bool.false_or] at hQ
      refine rlimTypes hj' hcj hf2 hf1 b ?_
      rw[wrap_nat (by omega)]
      refine ihj _ (qint hQ ?_)
      rw[Bool.or_assoc b,Bool.or_assoc]
def okCn(c:Cn):Bool:=wUp c.s&&okTys c.fs
def okDc(d:Dc):Bool:=wLow d.s&&(!((d.cs.length:Int)==0)&&(d.ps.all wVar&&d.cs.all okCn))
theorem declOf_ok{x:Dat}(hx:HasTy TT 76 x)(hp:(∀s∈(absDc x).ps,s.length<2^40)∧∀c∈(absDc x).cs,∀t∈c.fs,vrTy t=true)(hQ:Qf (.val (.d (.bool (okDc (absDc x))))) g):EvF TT 70 [x] g Qf:=by
 refine w70 hx ?_
 obtain⟨s2,a2,b2,p2,rfl,hs2,ha2,hb2⟩:=decl_ty hx
 have ea:=ha2.els undStrs
 have eal:=ea.1.1
 have eb:=hb2.els undCons
 have ebl:=eb.1.1
 have e1:okDc (absDc (.agg [.str s2,a2,b2,.int .i64 p2]))=(wLow s2&&(!(((elsOf b2).length:Int)==0)&&(((elsOf a2).map strOf).all wVar&&((elsOf b2).map absCn).all okCn))):=by
  unfold okDc
  rw[absDc_cs,absDc_ps,List.length_map]
  rfl
 rw[e1] at hQ
 obtain⟨hp1,hp2⟩:=hp
 have hp1:∀s∈(elsOf a2).map strOf,s.length<2^40:=hp1
 have hp2:∀c∈(elsOf b2).map absCn,∀t∈c.fs,vrTy t=true:=hp2
 simp only[fld,nth,strOf]
 have cons:Qf (.val (.d (.bool (((elsOf b2).map absCn).all okCn)))) g→L70_10 b2 ((elsOf b2).length:Int) 0 g Qf:=by
  refine loopUp (len:=(elsOf b2).length) (λi=>Qf (.val (.d (.bool ((((elsOf b2).drop i).map absCn).all okCn)))) g→L70_10 b2 ((elsOf b2).length:Int) (i:Int) g Qf) ?_ ?_ 0 (Nat.zero_le _)
  ·intro hQ
   refine w70_10 ?_
   rw[Br_ge]
   rw[List.drop_length] at hQ
   exact hQ
  ·intro i hi ih hQ
   refine w70_10 ?_
   rw[Br_lt hi,getE_nat hi]
   rw[drop_map_cons hi,List.all_cons,okCn,absCn_fs] at hQ
   have hp3:=hp2 _ (List.mem_map.2 ⟨_,List.getElem_mem hi,rfl⟩)
   rw[absCn_fs] at hp3
   obtain⟨s3,f1,e3,hs3,hf1⟩:=con_ty (eb.2 _ (List.getElem_mem hi))
   have ef:=hf1.els undTypes
   rw[e3] at hQ hp3⊢
   have hf2:fld (Dat.agg [.str s3,f1]) 1=f1:=rfl
   rw[hf2] at hQ hp3⊢
   have hsx:(absCn (.agg [.str s3,f1])).s=s3:=rfl
   rw[hsx] at hQ
   refine⟨inB hi,wordUp_ok hs3 ⟨_,rfl,Br_iff.2 ⟨λq=>?_,λq=>?_⟩⟩⟩
   ·rw[show wUp s3=false from by have q:(!wUp s3)=true:=q;simpa using q] at hQ;exact hQ
   ·rw[show wUp s3=true from by have q:(!wUp s3)=false:=q;simpa using q] at hQ
    refine containsTypes_ok (p:=λy=>!okTy (absTy y)) hf1 (λy hy Q q=>w138 (ef.2 _ hy) (typeOf_ok _ y g (Nat.lt_succ_self _) (ef.2 _ hy) (hp3 _ (List.mem_map.2 ⟨_,hy,rfl⟩)) _ ⟨_,rfl,q⟩)) ⟨_,rfl,?_⟩
    rw[okTys_any,wrap_nat (by omega)]
    refine Br_iff.2 ⟨λq=>?_,λq=>?_⟩
    ·rw[show okTys _=false by simpa using q] at hQ;exact hQ
    ·rw[show okTys _=true by simpa using q] at hQ
     exact ih hQ
 refine wordLow_ok hs2 ⟨_,rfl,Br_iff.2 ⟨λq=>?_,λq=>Br_iff.2 ⟨λq'=>?_,λq'=>?_⟩⟩⟩
 ·rw[show wLow s2=false by simpa using q] at hQ;exact hQ
 ·rw[q'] at hQ
  exact qcast hQ (by simp)
 ·rw[show wLow s2=true by simpa using q,q'] at hQ
  simp only[Bool.true_and,Bool.not_false] at hQ
  refine loopUp (len:=(elsOf a2).length) (λi=>Qf (.val (.d (.bool ((((elsOf a2).drop i).map strOf).all wVar&&((elsOf b2).map absCn).all okCn)))) g→L70_4 a2 ((elsOf a2).length:Int) (i:Int) (.agg [.str s2,a2,b2,.int .i64 p2]) g Qf) ?_ ?_ 0 (Nat.zero_le _) hQ
  ·intro hQ
   refine w70_4 ?_
   rw[Br_ge]
   rw[List.drop_length] at hQ
   exact cons hQ
  ·intro i hi ih hQ
   refine w70_4 ?_
   rw[Br_lt hi,getE_nat hi]
   rw[drop_map_cons hi,List.all_cons] at hQ
   have hp3:=hp1 _ (List.mem_map.2 ⟨_,List.getElem_mem hi,rfl⟩)
   obtain⟨t1,d1,_⟩:=str_ty (ea.2 _ (List.getElem_mem hi))
   rw[d1] at hQ hp3⊢
   refine⟨inB hi,wordVar_ok (s:=t1) hp3 ⟨_,rfl,Br_iff.2 ⟨λq=>?_,λq=>?_⟩⟩⟩
   ·rw[show wVar (strOf (.str t1))=false from by have q:(!wVar t1)=true:=q;show wVar t1=false;simpa using q] at hQ;exact hQ
   ·rw[show wVar (strOf (.str t1))=true from by have q:(!wVar t1)=false:=q;show wVar t1=true;simpa using q] at hQ
    rw[wrap_nat (by omega)]
    exact ih hQ
def checkP(P:Pg):Bool:=(limF (nwEx P.e) P==0)&&(okEx P.e&&P.ds.all okDc)
theorem okDc_any(xs:List Dat):xs.any (λy=>!okDc (absDc y))=!(xs.map absDc).all okDc:=by induction xs with
 |nil=>rfl
 |cons x xs ih=>simp[ih]
theorem parseCheck_ok{x:Dat}(hx:HasTy TT 29 x)(hp:Pre (absPg x))(hQ:Qf (.val (.d (.bool (checkP (absPg x))))) g):EvF TT 24 [x] g Qf:=by
 refine w24 hx (limited_ok hx hp ⟨_,rfl,?_⟩)
 unfold checkP at hQ
 have hpd:=hp.ds
 obtain⟨d1,k1,s1,r1,n1,a1,b1,p1,rfl,hd1,he1⟩:=prog_ty hx
 have e0:(absPg (.agg [d1,.int .i64 k1,.str s1,.str r1,.int .i64 n1,a1,b1,.int .i64 p1])).ds=(elsOf d1).map absDc:=rfl
 have e1:(absPg (.agg [d1,.int .i64 k1,.str s1,.str r1,.int .i64 n1,a1,b1,.int .i64 p1])).e=absEx (.agg [.int .i64 k1,.str s1,.str r1,.int .i64 n1,a1,b1,.int .i64 p1]):=rfl
 have ed:=hd1.els undDecls
 rw[e0] at hQ hpd
 refine Br_iff.2 ⟨λq=>?_,λq=>exprOf_ok _ _ g (Nat.lt_succ_self _) he1 _ ⟨_,rfl,Br_iff.2 ⟨λq'=>?_,λq'=>?_⟩⟩⟩
 ·rw[show(limF _ _==0)=false by simpa using q] at hQ;exact hQ
 ·rw[e1,show okEx _=false by simpa using q'] at hQ
  exact qcast hQ (by simp)
 ·rw[show(limF _ _==0)=true by simpa using q,e1,show okEx _=true by simpa using q'] at hQ
  simp only[Bool.true_and] at hQ
  refine containsDecls_ok (p:=λy=>!okDc (absDc y)) hd1 (λy hy Q q=>w69 (ed.2 _ hy) (declOf_ok (ed.2 _ hy) (by
   have:=hpd _ (List.mem_map.2 ⟨_,hy,rfl⟩)
   exact⟨this.1,λc hc t ht=>(this.2 c hc t ht).2.2⟩) ⟨_,rfl,q⟩)) ⟨_,rfl,qcast hQ ?_⟩
  rw[okDc_any,Bool.not_not]
  rfl
def rDc(d:Dc):Bool:=okDc d&&(!badDc d&&!g256 (dpCns d.cs))
def rCheckP(P:Pg):Bool:=!gtI 32 P.ds.length&&(!gtI 2048 (upto 0 (szEx P.e))&&(P.ds.all rDc&&((limF (!flEx P.e) P==0)&&okEx P.e)))
theorem checkP_eq(P:Pg):checkP P=rCheckP P:=by
 unfold checkP rCheckP
 cases ho:okEx P.e with
 |false=>simp
 |true=>
  rw[nw_flEx _ ho]
  by_cases hl:limF (!flEx P.e) P=0
  ·rw[hl]
   unfold limF at hl
   cases h1:gtI 32 P.ds.length with
   |true=>rw[h1] at hl;exact absurd hl (by simp)
   |false=>
    cases h2:gtI 2048 (upto 0 (szEx P.e)) with
    |true=>rw[h1,h2] at hl;exact absurd hl (by simp)
    |false=>
     rw[h1,h2] at hl
     cases hf:flEx P.e with
     |true=>rw[hf] at hl;exact absurd hl (by simp)
     |false=>
      rw[hf] at hl
      cases hb:P.ds.any badDc with
      |true=>rw[hb] at hl;exact absurd hl (by simp)
      |false=>
       rw[hb,gtI_256,g256_max] at hl
       have hd:g256 (dpDcs P.ds)=false:=by
        cases hd:g256 (dpDcs P.ds) with
        |false=>rfl
        |true=>rw[hd] at hl;exact absurd hl (by simp)
       have key:∀l:List Dc,l.any badDc=false→g256 (dpDcs l)=false→l.all okDc=l.all rDc:=by
        intro l
        induction l with
        |nil=>intro _ _;rfl
        |cons d l ih=>
         intro hb hd
         rw[List.any_cons,Bool.or_eq_false_iff] at hb
         rw[dpDcs,g256_max,Bool.or_eq_false_iff] at hd
         rw[List.all_cons,List.all_cons,ih hb.2 hd.2,rDc,hb.1,hd.1]
         simp
       rw[key _ hb hd]
       simp
  ·rw[show(limF (!flEx P.e) P==0)=false by simpa using hl]
   simp
end
end Go.Proofs.YtgmapdcdmomioaaGreatDoor.Pa
namespace Go.Proofs.YtgmapdcdmomioaaGreatDoor.Pa
open Go Go.Proofs.YtgmapdcdmomioaaGreatDoor.Am
def lo7:List CutI:=[]
theorem w7{x0:Dat}{g:Glob}{Qf:OGP}(h0:HasTy TT 29 x0)
 (h:EvF TT 21 [x0] g (KQ Qf λv g'=>∃b,v=.d (.bool b)∧Br b (EvF TT 15 [] g' (KQ Qf λv g'=>∃b,v=.d (.bool b)∧Qf (.val (.d (.bool b))) g')) (EvF TT 23 [x0] g' (KQ Qf λv g'=>∃x,HasTy TT 29 x∧v=.d x∧EvF TT 24 [x] g' (KQ Qf λv g'=>∃b,v=.d (.bool b)∧EvF TT 25 [x0] g' (KQ Qf λv g'=>∃b_1,v=.d (.bool b_1)∧Br (b==b_1) (EvF TT 23 [x0] g' (KQ Qf λv g'=>∃x_1,HasTy TT 29 x_1∧v=.d x_1∧EvF TT 26 [x_1] g' (KQ Qf λv g'=>∃n,v=.d (.int .i64 n)∧EvF TT 27 [x0] g' (KQ Qf λv g'=>∃n_1,v=.d (.int .i64 n_1)∧Br (n==n_1) (EvF TT 18 [x,x0,.bool true] g' (KQ Qf λv g'=>∃b,v=.d (.bool b)∧Br b (EvF TT 15 [] g' (KQ Qf λv g'=>∃b,v=.d (.bool b)∧Qf (.val (.d (.bool b))) g')) (Qf (.val (.d (.bool false))) g'))) (Qf (.val (.d (.bool false))) g'))))) (Qf (.val (.d (.bool false))) g'))))))):
 EvF TT 7 [x0] g Qf:=
 sx_fun (rk:=rk) (fn:=Tryz.f7) (loops:=lo7) (joins:=[]) (n:=100000) (args:=[(29,x0)]) rfl rfl rfl rfl ⟨h0,trivial⟩ (by kernel_rfl) h
end Go.Proofs.YtgmapdcdmomioaaGreatDoor.Pa
namespace Go.Proofs.YtgmapdcdmomioaaGreatDoor.Pa
open Go Go.Proofs.YtgmapdcdmomioaaGreatDoor.Am
def fdOk(t:Ty):Bool:=!g256 (dpTy t)&&okTy t
def cnOk(c:Cn):Bool:=wUp c.s&&(!badCn c&&c.fs.all fdOk)
theorem fdOk_all(l:List Ty):l.all fdOk=(okTys l&&!g256 (dpTys l)):=by induction l with
 |nil=>rfl
 |cons t l ih=>
  rw[List.all_cons,ih,okTys,dpTys,g256_max,fdOk]
  cases okTy t<;>cases g256 (dpTy t)<;>cases okTys l<;>cases g256 (dpTys l)<;>rfl
theorem cnOk_all(l:List Cn):l.all cnOk=(l.all okCn&&(!l.any badCn&&!g256 (dpCns l))):=by induction l with
 |nil=>rfl
 |cons c l ih=>
  rw[List.all_cons,ih,List.all_cons,List.any_cons,dpCns,g256_max,cnOk,okCn,fdOk_all]
  cases wUp c.s<;>cases badCn c<;>cases okTys c.fs<;>cases g256 (dpTys c.fs)<;>cases l.all okCn<;>cases l.any badCn<;>cases g256 (dpCns l)<;>rfl
theorem rDc_eq(d:Dc):rDc d=(wLow d.s&&(!((d.cs.length:Int)==0)&&(!gtI 32 d.cs.length&&(!gtI 4 d.ps.length&&(d.ps.all wVar&&d.cs.all cnOk))))):=by
 rw[cnOk_all,rDc,okDc,badDc]
 cases wLow d.s<;>cases ((d.cs.length:Int)==0)<;>cases gtI 32 d.cs.length<;>cases gtI 4 d.ps.length<;>cases d.ps.all wVar<;>cases d.cs.all okCn<;>cases d.cs.any badCn<;>cases g256 (dpCns d.cs)<;>rfl
section
variable{g:Glob}{Qf:OGP}
theorem nb{b:Bool}(h:(!b)=true):b=false:=by simpa using h
theorem nb'{b:Bool}(h:(!b)=false):b=true:=by simpa using h
theorem rcFields{y4 y1 c1 f1:Dat}{R:Bool}{q n3:Nat}(hq:q<(elsOf (fld y4 2)).length)(hc:(elsOf (fld y4 2))[q]=c1)(hf1:fld c1 1=f1)(hf:HasTy TT 89 f1)(hs:∀t∈(elsOf f1).map absTy,ndTy t≤20000∧dpTy t≤20000)
 (hF:Qf (.val (.d (.bool false))) g) (h:((elsOf f1).map absTy).all fdOk=true→L25_15 (n3:Int) (IntKind.i64.wrap ((q:Int)+1)) y4 y1 g Qf):
 L25_20 (n3:Int) (q:Int) 0 y4 y1 g Qf:=by
 have ef:=hf.els undTypes
 have efl:=ef.1.1
 refine loopUp (len:=(elsOf f1).length) (λi=>((((elsOf f1).drop i).map absTy).all fdOk=true→L25_15 (n3:Int) (IntKind.i64.wrap ((q:Int)+1)) y4 y1 g Qf)→L25_20 (n3:Int) (q:Int) (i:Int) y4 y1 g Qf) ?_ ?_ 0 (Nat.zero_le _) h
 ·intro h
  refine w25_20 ⟨inB hq,?_⟩
  rw[getE_nat hq,hc,hf1,Br_ge]
  exact h (by rw[List.drop_length];rfl)
 ·intro i hi ih h
  refine w25_20 ⟨inB hq,?_⟩
  rw[getE_nat hq,hc,hf1,Br_lt hi,getE_nat hi]
  rw[drop_map_cons hi,List.all_cons,fdOk] at h
  obtain⟨n1,n2⟩:=hs _ (List.mem_map.2 ⟨_,List.getElem_mem hi,rfl⟩)
  refine⟨inB hq,inB hi,deepType_ok _ _ g 256 (Nat.lt_succ_self _) (ef.2 _ (List.getElem_mem hi)) (by omega) _ ⟨_,rfl,Br_iff.2 ⟨λ_=>hF,λp=>⟨inB hq,inB hi,rType_ok _ _ g 1048576 (Nat.lt_succ_self _) (ef.2 _ (List.getElem_mem hi)) (by omega) (by omega) _ ⟨_,rfl,Br_iff.2 ⟨λ_=>hF,λp'=>?_⟩⟩⟩⟩⟩⟩
  have ho:okTy (absTy (elsOf f1)[i])=true:=by
   cases ho:okTy (absTy (elsOf f1)[i]) with
   |true=>rfl
   |false=>rw[ho] at p';exact absurd p' (by simp)
  rw[show g256 (dpTy (absTy (elsOf f1)[i]))=false from p,ho] at h
  rw[wrap_nat (by omega)]
  exact ih (by simpa using h)
theorem rCheck_ok{x:Dat}(hx:HasTy TT 29 x)(hp:Pre (absPg x))(hQ:Qf (.val (.d (.bool (rCheckP (absPg x))))) g):EvF TT 25 [x] g Qf:=by
 refine w25 hx ?_
 unfold rCheckP at hQ
 have hpd:=hp.ds
 have hlim:∀Q:Out→Glob→Prop,Q (.val (.d (.int .i64 (limF (!flEx (absPg x).e) (absPg x))))) g→EvF TT 52 [x] g Q:=λQ h=>limits_ok hx h
 have hsz:∀Q:Out→Glob→Prop,Q (.val (.d (.int .i64 (upto 0 (szEx (absPg x).e))))) g→EvF TT 27 [x] g Q:=λQ h=>refSize_ok x g hx Q h
 obtain⟨d1,k1,s1,r1,n1,a1,b1,p1,rfl,hd1,he1⟩:=prog_ty hx
 have e0:(absPg (.agg [d1,.int .i64 k1,.str s1,.str r1,.int .i64 n1,a1,b1,.int .i64 p1])).ds=(elsOf d1).map absDc:=rfl
 have e1:(absPg (.agg [d1,.int .i64 k1,.str s1,.str r1,.int .i64 n1,a1,b1,.int .i64 p1])).e=absEx (.agg [.int .i64 k1,.str s1,.str r1,.int .i64 n1,a1,b1,.int .i64 p1]):=rfl
 have hfin:∀Q:Out→Glob→Prop,Q (.val (.d (.bool (okEx (absPg (.agg [d1,.int .i64 k1,.str s1,.str r1,.int .i64 n1,a1,b1,.int .i64 p1])).e)))) g→EvF TT 76 [sub (.agg [d1,.int .i64 k1,.str s1,.str r1,.int .i64 n1,a1,b1,.int .i64 p1]) 1 7] g Q:=λQ h=>rExpr_ok _ _ g (Nat.lt_succ_self _) he1 Q h
 have h0:fld (.agg [d1,.int .i64 k1,.str s1,.str r1,.int .i64 n1,a1,b1,.int .i64 p1]) 0=d1:=rfl
 rw[e0,List.length_map] at hQ
 rw[e0] at hpd
 have ed:=hd1.els undDecls
 have edl:=ed.1.1
 generalize Dat.agg [d1,.int .i64 k1,.str s1,.str r1,.int .i64 n1,a1,b1,.int .i64 p1]=Y at*
 rw[h0]
 generalize (limF (!flEx (absPg Y).e) (absPg Y))=LM at*
 generalize okEx (absPg Y).e=OE at*
 refine Br_iff.2 ⟨λq=>?_,λq=>hsz _ ⟨_,rfl,Br_iff.2 ⟨λq'=>?_,λq'=>?_⟩⟩⟩
 ·rw[show gtI 32 ((elsOf d1).length:Int)=true from q] at hQ;exact hQ
 ·rw[show gtI 2048 _=true from q'] at hQ
  exact qcast hQ (by simp)
 ·rw[show gtI 32 ((elsOf d1).length:Int)=false from q,show gtI 2048 _=false from q'] at hQ
  simp only[Bool.not_false,Bool.true_and] at hQ
  refine loopUp (len:=(elsOf d1).length) (λi=>Qf (.val (.d (.bool ((((elsOf d1).drop i).map absDc).all rDc&&((LM==0)&&OE))))) g→L25_4 (i:Int) Y g Qf) ?_ ?_ 0 (Nat.zero_le _) hQ
  ·intro hQ
   refine w25_4 ?_
   rw[h0,Br_ge]
   rw[List.drop_length] at hQ
   refine hlim _ ⟨_,rfl,Br_iff.2 ⟨λq=>hfin _ ⟨_,rfl,?_⟩,λq=>?_⟩⟩
   ·rw[q] at hQ;exact hQ
   ·rw[q] at hQ;exact hQ
  ·intro i hi ih hQ
   refine w25_4 ?_
   rw[h0,Br_lt hi,getE_nat hi]
   rw[drop_map_cons hi,List.all_cons,rDc_eq] at hQ
   have hpi:=hpd _ (List.mem_map.2 ⟨_,List.getElem_mem hi,rfl⟩)
   obtain⟨s2,a2,b2,p2,e2,hs2,ha2,hb2⟩:=decl_ty (ed.2 _ (List.getElem_mem hi))
   have ea:=ha2.els undStrs
   have eal:=ea.1.1
   have eb:=hb2.els undCons
   have ebl:=eb.1.1
   rw[absDc_cs,absDc_ps,List.length_map,List.length_map] at hQ
   rw[e2] at hQ hpi⊢
   have f1:fld (Dat.agg [.str s2,a2,b2,.int .i64 p2]) 1=a2:=rfl
   have f2:fld (Dat.agg [.str s2,a2,b2,.int .i64 p2]) 2=b2:=rfl
   have f3:(absDc (Dat.agg [.str s2,a2,b2,.int .i64 p2])).s=s2:=rfl
   have f4:strOf (fld (Dat.agg [.str s2,a2,b2,.int .i64 p2]) 0)=s2:=rfl
   have hpc:∀c∈(elsOf b2).map absCn,∀t∈c.fs,ndTy t≤20000∧dpTy t≤20000:=λc hc t ht=>⟨(hpi.2 c hc t ht).1,(hpi.2 c hc t ht).2.1⟩
   rw[f1,f2,f3] at hQ
   rw[f1,f2,f4]
   generalize Dat.agg [.str s2,a2,b2,.int .i64 p2]=D at f1 f2
   refine⟨inB hi,r12lowWord_ok hs2 ⟨_,rfl,Br_iff.2 ⟨λq=>?_,λq=>Br_iff.2 ⟨λq1=>?_,λq1=>Br_iff.2 ⟨λq2=>?_,λq2=>Br_iff.2 ⟨λq3=>?_,λq3=>?_⟩⟩⟩⟩⟩⟩
   ·rw[nb q] at hQ;exact hQ
   ·rw[q1] at hQ;exact qcast hQ (by simp)
   ·rw[show gtI 32 ((elsOf b2).length:Int)=true from q2] at hQ;exact qcast hQ (by simp)
   ·rw[show gtI 4 ((elsOf a2).length:Int)=true from q3] at hQ;exact qcast hQ (by simp)
   ·rw[nb' q,q1,show gtI 32 ((elsOf b2).length:Int)=false from q2,show gtI 4 ((elsOf a2).length:Int)=false from q3] at hQ
    simp only[Bool.true_and,Bool.not_false] at hQ
    have cons:Qf (.val (.d (.bool (((elsOf b2).map absCn).all cnOk&&((((elsOf d1).drop (i+1)).map absDc).all rDc&&((LM==0)&&OE)))))) g→L25_15 (i:Int) 0 D Y g Qf:=by
     intro hQ
     refine loopUp (len:=(elsOf b2).length) (λj=>Qf (.val (.d (.bool ((((elsOf b2).drop j).map absCn).all cnOk&&((((elsOf d1).drop (i+1)).map absDc).all rDc&&((LM==0)&&OE)))))) g→L25_15 (i:Int) (j:Int) D Y g Qf) ?_ ?_ 0 (Nat.zero_le _) hQ
     ·intro hQ
      refine w25_15 ?_
      rw[f2,Br_ge,wrap_nat (by omega)]
      rw[List.drop_length] at hQ
      exact ih hQ
     ·intro j hj ihj hQ
      have hj':j<(elsOf (fld D 2)).length:=by rw[f2];exact hj
      refine w25_15 ?_
      rw[Br_lt hj',getE_nat hj']
      rw[drop_map_cons hj,List.all_cons,cnOk,absCn_fs] at hQ
      have hcj:(elsOf (fld D 2))[j]=(elsOf b2)[j]:=by simp only[f2]
      rw[hcj]
      have hpj:=hpc _ (List.mem_map.2 ⟨_,List.getElem_mem hj,rfl⟩)
      rw[absCn_fs] at hpj
      obtain⟨s3,f5,e3,hs3,hf5⟩:=con_ty (eb.2 _ (List.getElem_mem hj))
      have hc:badCn (absCn (elsOf b2)[j])=gtI 8 ((elsOf f5).length:Int):=by
       unfold badCn
       rw[absCn_len,e3]
       rfl
      rw[hc] at hQ
      rw[e3] at hQ hcj hpj⊢
      have hf2:fld (Dat.agg [.str s3,f5]) 1=f5:=rfl
      have hf3:(absCn (Dat.agg [.str s3,f5])).s=s3:=rfl
      have hf4:strOf (fld (Dat.agg [.str s3,f5]) 0)=s3:=rfl
      rw[hf2,hf3] at hQ
      rw[hf2] at hpj
      rw[hf2,hf4]
      refine⟨inB hj',r12upWord_ok hs3 ⟨_,rfl,Br_iff.2 ⟨λq=>?_,λq=>⟨inB hj',Br_iff.2 ⟨λq1=>?_,λq1=>?_⟩⟩⟩⟩⟩
      ·rw[nb q] at hQ;exact hQ
      ·rw[show gtI 8 ((elsOf f5).length:Int)=true from q1] at hQ;exact qcast hQ (by simp)
      ·rw[nb' q,show gtI 8 ((elsOf f5).length:Int)=false from q1] at hQ
       simp only[Bool.true_and,Bool.not_false] at hQ
       cases hall:((elsOf f5).map absTy).all fdOk with
       |false=>
        rw[hall] at hQ
        exact rcFields (R:=false) hj' hcj hf2 hf5 hpj hQ (λh=>by rw[hall] at h;cases h)
       |true=>
        rw[hall,Bool.true_and] at hQ
        by_cases hF:((((elsOf b2).drop (j+1)).map absCn).all cnOk&&((((elsOf d1).drop (i+1)).map absDc).all rDc&&((LM==0)&&OE)))=false
        ·rw[hF] at hQ
         refine rcFields (R:=false) hj' hcj hf2 hf5 hpj hQ (λ_=>?_)
         rw[wrap_nat (by omega)]
         exact ihj (by rw[hF];exact hQ)
        ·have hx:L25_15 (i:Int) (IntKind.i64.wrap ((j:Int)+1)) D Y g Qf:=by
          rw[wrap_nat (by omega)]
          exact ihj hQ
         -- no field fails here:the loop is walked once more,without a way out
         have ef:=hf5.els undTypes
         have efl:=ef.1.1
         refine loopUp (len:=(elsOf f5).length) (λi'=>(((elsOf f5).drop i').map absTy).all fdOk=true→L25_20 (i:Int) (j:Int) (i':Int) D Y g Qf) ?_ ?_ 0 (Nat.zero_le _) hall
         ·intro _
          refine w25_20 ⟨inB hj',?_⟩
          rw[getE_nat hj',hcj,hf2,Br_ge]
          exact hx
         ·intro i' hi' ih' h
          refine w25_20 ⟨inB hj',?_⟩
          rw[getE_nat hj',hcj,hf2,Br_lt hi',getE_nat hi']
          rw[drop_map_cons hi',List.all_cons,fdOk,Bool.and_eq_true,Bool.and_eq_true] at h
          obtain⟨n1,n2⟩:=hpj _ (List.mem_map.2 ⟨_,List.getElem_mem hi',rfl⟩)
          refine⟨inB hj',inB hi',deepType_ok _ _ g 256 (Nat.lt_succ_self _) (ef.2 _ (List.getElem_mem hi')) (by omega) _ ⟨_,rfl,?_⟩⟩
          rw[show decide (256<dpTy (absTy (elsOf f5)[i']))=false by simpa[g256] using h.1.1,Br_false]
          refine⟨inB hj',inB hi',rType_ok _ _ g 1048576 (Nat.lt_succ_self _) (ef.2 _ (List.getElem_mem hi')) (by omega) (by omega) _ ⟨_,rfl,?_⟩⟩
          rw[h.1.2,wrap_nat (by omega),cond_true,show decide (((1048576-ndTy (absTy (elsOf f5)[i']):Nat):Int)<0)=false from decide_eq_false (by omega),Br_false]
          exact ih' h.2
    refine loopUp (len:=(elsOf a2).length) (λj=>Qf (.val (.d (.bool ((((elsOf a2).drop j).map strOf).all wVar&&(((elsOf b2).map absCn).all cnOk&&((((elsOf d1).drop (i+1)).map absDc).all rDc&&((LM==0)&&OE))))))) g→L25_10 (i:Int) (j:Int) D Y g Qf) ?_ ?_ 0 (Nat.zero_le _) (qcast hQ (by rw[List.drop_zero];simp only[Bool.and_assoc]))
    ·intro hQ
     refine w25_10 ?_
     rw[f1,Br_ge]
     rw[List.drop_length] at hQ
     exact cons hQ
    ·intro j hj ihj hQ
     have hj':j<(elsOf (fld D 1)).length:=by rw[f1];exact hj
     refine w25_10 ?_
     rw[Br_lt hj',getE_nat hj']
     rw[drop_map_cons hj,List.all_cons] at hQ
     have hcj:(elsOf (fld D 1))[j]=(elsOf a2)[j]:=by simp only[f1]
     rw[hcj]
     obtain⟨t1,d2,ht1⟩:=str_ty (ea.2 _ (List.getElem_mem hj))
     rw[d2] at hQ⊢
     refine⟨inB hj',r11Word_ok (s:=t1) true ht1 ⟨_,rfl,Br_iff.2 ⟨λq=>?_,λq=>?_⟩⟩⟩
     ·rw[show wVar (strOf (.str t1))=false from nb q] at hQ;exact hQ
     ·rw[show wVar (strOf (.str t1))=true from nb' q] at hQ
      rw[wrap_nat (by omega)]
      exact ihj hQ
end
theorem strs_of{x:Dat}(h:StrB x):(strOf x).length<2^40:=by
 cases h with
 |str s h=>simp only[strOf];omega
 |_=>simp[strOf]
theorem strB_els{x:Dat}(h:StrB x):∀y∈elsOf x,StrB y:=by
 cases h with
 |sl m xs _ h=>exact h
 |_=>intro y hy;simp[elsOf] at hy
theorem nth_mem':∀{cs:List Dat} {o:Nat},nth cs o∈cs∨nth cs o=.nil
 |[],o=>.inr rfl
 |x::l,0=>.inl List.mem_cons_self
 |x::l,o+1=>by
  rcases nth_mem' (cs:=l) (o:=o) with h|h
  ·exact .inl (List.mem_cons_of_mem _ h)
  ·exact .inr h
theorem strB_fld{x:Dat}(h:StrB x)(o:Nat):StrB (fld x o):=by
 cases h with
 |agg cs h=>
  simp only[fld]
  rcases nth_mem' (cs:=cs) (o:=o) with h'|h'
  ·exact h _ h'
  ·rw[h'];exact .nil
 |bool b=>exact .bool b
 |int k n=>exact .int k n
 |str s h=>exact .str s h
 |nil=>exact .nil
 |sl m xs hl h=>exact .sl m xs hl h
theorem vr_of:∀(k:Nat) (x:Dat),SizeOf.sizeOf x<k→HasTy TT 94 x→StrB x→vrTy (absTy x)=true
 |0,x,hk,_,_=>by omega
 |k+1,x,hk,hx,hb=>by
  obtain⟨k1,s1,v1,a1,rfl,hs1,t1⟩:=type_ty hx
  have ex:=t1.els undTypes
  have hc:=sizeOf_cell (cs:=[.int .i64 k1,.str s1,.int .i64 v1,a1]) (c:=a1) (by simp)
  simp only[absTy,vrTy,Bool.and_eq_true,decide_eq_true_eq]
  refine⟨strs_of (strB_fld hb 1),?_⟩
  rw[absTyA_map]
  have hall:∀y∈elsOf a1,vrTy (absTy y)=true:=λy hy=>by
   obtain⟨i,hi,rfl⟩:=List.getElem_of_mem hy
   have hsz:=sizeOf_el hi
   exact vr_of k _ (by omega) (ex.2 _ hy) (strB_els (strB_fld hb 3) _ hy)
  have:∀l:List Dat,(∀y∈l,vrTy (absTy y)=true)→vrTys (l.map absTy)=true:=by
   intro l
   induction l with
   |nil=>intro _;rfl
   |cons y l ih=>
    intro h
    rw[List.map_cons,vrTys,h y List.mem_cons_self,ih λz hz=>h z (List.mem_cons_of_mem _ hz)]
    rfl
  exact this _ hall
theorem pre_of{x:Dat}(hx:HasTy TT 29 x)(hb:StrB x)(h1:∀d∈elsOf (fld x 0),SmDc d)(h2:szEx (absPg x).e≤20000)(h3:dpEx (absPg x).e≤601):Pre (absPg x) where
 sz:=h2
 dp:=Nat.le_trans h3 (by decide)
 ds:=by
  obtain⟨d1,k1,s1,r1,n1,a1,b1,p1,rfl,hd1,he1⟩:=prog_ty hx
  intro d hd
  obtain⟨y,hy,rfl⟩:=List.mem_map.1 (show d∈(elsOf d1).map absDc from hd)
  have hby:=strB_els (strB_fld hb 0) y hy
  have hty:=(hd1.els undDecls).2 y hy
  refine⟨λs hs=>?_,λc hc t ht=>?_⟩
  ·obtain⟨z,hz,rfl⟩:=List.mem_map.1 (show s∈(elsOf (fld y 1)).map strOf from hs)
   exact strs_of (strB_els (strB_fld hby 1) z hz)
  ·obtain⟨z,hz,rfl⟩:=List.mem_map.1 (show c∈(elsOf (fld y 2)).map absCn from hc)
   rw[absCn_fs] at ht
   obtain⟨u,hu,rfl⟩:=List.mem_map.1 ht
   have hsm:=h1 y hy z hz u hu
   refine⟨hsm.1,Nat.le_trans hsm.2 (by decide),?_⟩
   obtain⟨s2,a2,b2,p2,rfl,_,_,hb2⟩:=decl_ty hty
   have hz':z∈elsOf b2:=hz
   have hbz:=strB_els (strB_fld hby 2) z hz
   have htz:=(hb2.els undCons).2 z hz'
   obtain⟨s3,f3,rfl,_,hf3⟩:=con_ty htz
   exact vr_of _ u (Nat.lt_succ_self _) ((hf3.els undTypes).2 u hu) (strB_els (strB_fld hbz 1) u hu)
end Go.Proofs.YtgmapdcdmomioaaGreatDoor.Pa
