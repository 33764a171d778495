/- Limits of programs, and which may have been read: the program's tests, the document's. Limits as the document has them; which declared types and programs may be. What functions of the program do, printed by wip/tools/sx/sx.py. The document's Check told; the law ParseChecks answers true. -/
import Derived.Test.YtiheejdkkjfenaaGreatDoorRH
import Derived.Test.YtiheejdkkjfenaaGreatDoorRD
set_option linter.all false
set_option autoImplicit false
set_option maxRecDepth 100000
namespace Go.Proofs.YtiheejdkkjfenaaGreatDoor.Pa
open Go Go.Proofs.YtiheejdkkjfenaaGreatDoor.Am
def gtI(m n:Int):Bool:=decide (m<n)
def bC(c:Cn):Bool:=gtI 8 c.fs.length
def bD(d:Dc):Bool:=gtI 4 d.ps.length||(gtI 32 d.cs.length||d.cs.any bC)
def dpC:List Cn→Nat
 |[]=>0
 |c::l=>max (dpT c.fs) (dpC l)
def dD:List Dc→Nat
 |[]=>0
 |d::l=>max (dpC d.cs) (dD l)
def lF(nw:Bool)(P:Pg):Int:=
 bif gtI 32 P.ds.length||(gtI 2048 (upto 0 (szx P.e))||!nw) then 3 else bif P.ds.any bD then 3 else bif gtI 256 ((max (dpx P.e) (dD P.ds):Nat):Int) then 4 else 0
structure Pre(P:Pg):Prop where
 ds:∀d∈P.ds,(∀s∈d.ps,s.length<2^40)∧∀c∈d.cs,∀t∈c.fs,ndy t≤20000∧dTy t≤20000∧vrT t=true
 sz:szx P.e≤20000
 dp:dpx P.e≤20000
theorem abC(x:Dat):(aC x).fs=(elO (fld x 1)).map aT:=ay _
theorem abn(x:Dat):(aC x).fs.length=(elO (fld x 1)).length:=by rw[abC,List.length_map]
theorem asD(x:Dat):(abD x).cs=(elO (fld x 2)).map aC:=rfl
theorem abp(x:Dat):(abD x).ps=(elO (fld x 1)).map strOf:=rfl
theorem abd(x:Dat):(abg x).ds=(elO (fld x 0)).map abD:=rfl
theorem dps{l:List Ty}{n:Nat}(h:∀t∈l,dTy t≤n):dpT l≤n:=by induction l with
 |nil=>exact Nat.zero_le _
 |cons t l ih=>
  have h1:=h t List.mem_cons_self;have h2:=ih λt ht=>h t (List.mem_cons_of_mem _ ht);simp only[dpT];omega
theorem dpn{l:List Cn}{n:Nat}(h:∀c∈l,∀t∈c.fs,dTy t≤n):dpC l≤n:=by induction l with
 |nil=>exact Nat.zero_le _
 |cons c l ih=>
  have h1:=dps (h c List.mem_cons_self);have h2:=ih λt ht=>h t (List.mem_cons_of_mem _ ht);simp only[dpC];omega
theorem dm{α β:Type}{f:α→β}{xs:List α}{i:Nat}(hi:i<xs.length):(xs.drop i).map f=f xs[i]::(xs.drop (i+1)).map f:=by
 rw[List.drop_eq_getElem_cons hi,List.map_cons]
section
variable{g:Glob}{Qf:OGP}
theorem lT{f1:Dat}(hf:Ha TT 59 f1){x63 x70:Dat}{n64 n65 n71 n72:Int}:∀m:Nat,m≤20000→dpT ((elO f1).map aT)≤20000→L62_20 ((max m (dpT ((elO f1).map aT)):Nat):Int) x63 n64 n65 x70 n71 (IntKind.i64.wrap (n72+1)) g Qf→L62_23 (m:Int) x63 n64 n65 x70 n71 n72 f1 ((elO f1).length:Int) 0 g Qf:=by
 have ef:=hf.els uT;have efl:=ef.1.1;intro m hm hd hQ;refine lU (len:=(elO f1).length) (λi=>∀m:Nat,m≤20000→dpT (((elO f1).drop i).map aT)≤20000→L62_20 ((max m (dpT (((elO f1).drop i).map aT)):Nat):Int) x63 n64 n65 x70 n71 (IntKind.i64.wrap (n72+1)) g Qf→L62_23 (m:Int) x63 n64 n65 x70 n71 n72 f1 ((elO f1).length:Int) (i:Int) g Qf) ?_ ?_ 0 (Nat.zero_le _) m hm hd hQ
 ·intro m hm hd hQ;refine w62_23 ?_;rw[Bg];rw[List.drop_length] at hQ
  simpa[dpT] using hQ
 ·intro i hi ih m hm hd hQ;refine w62_23 ?_;rw[Bl hi,geE hi];rw[dpy hi] at hd hQ;refine⟨inB hi,tyD _ _ g (Nat.lt_succ_self _) (ef.2 _ (List.getElem_mem hi)) (by omega) _ ⟨_,rfl,?_⟩⟩;rw[wra (by omega),man];exact ih _ (by omega) (by omega) (by rw[Nat.max_assoc];exact hQ)
theorem liC{b1:Dat}(hb:Ha TT 81 b1){x63:Dat}{n64 n65:Int}:∀m:Nat,m≤20000→dpC ((elO b1).map aC)≤20000→L62_17 ((max m (dpC ((elO b1).map aC)):Nat):Int) x63 n64 (IntKind.i64.wrap (n65+1)) g Qf→L62_20 (m:Int) x63 n64 n65 b1 ((elO b1).length:Int) 0 g Qf:=by
 have eb:=hb.els uC;have ebl:=eb.1.1;intro m hm hd hQ;refine lU (len:=(elO b1).length) (λi=>∀m:Nat,m≤20000→dpC (((elO b1).drop i).map aC)≤20000→L62_17 ((max m (dpC (((elO b1).drop i).map aC)):Nat):Int) x63 n64 (IntKind.i64.wrap (n65+1)) g Qf→L62_20 (m:Int) x63 n64 n65 b1 ((elO b1).length:Int) (i:Int) g Qf) ?_ ?_ 0 (Nat.zero_le _) m hm hd hQ
 ·intro m hm hd hQ;refine w62_20 ?_;rw[Bg];rw[List.drop_length] at hQ
  simpa[dpC] using hQ
 ·intro i hi ih m hm hd hQ;refine w62_20 ?_;rw[Bl hi,geE hi];rw[dm hi,dpC,abC] at hd hQ;obtain⟨s2,f1,e2,_,hf1⟩:=coy (eb.2 _ (List.getElem_mem hi));rw[e2] at hd hQ⊢;have hf:fld (Dat.agg [.str s2,f1]) 1=f1:=rfl;rw[hf] at hd hQ⊢;refine⟨inB hi,lT hf1 m hm (by omega) ?_⟩;rw[wra (by omega)];exact ih _ (by omega) (by omega) (by rw[Nat.max_assoc];exact hQ)
theorem liD{d1:Dat}(hd:Ha TT 22 d1):∀m:Nat,m≤20000→dD ((elO d1).map abD)≤20000→Qf (.val (.d (.int .i64 (bif gtI 256 ((max m (dD ((elO d1).map abD)):Nat):Int) then 4 else 0)))) g→L62_17 (m:Int) d1 ((elO d1).length:Int) 0 g Qf:=by
 have ed:=hd.els uD;have edl:=ed.1.1;intro m hm hdp hQ;refine lU (len:=(elO d1).length) (λi=>∀m:Nat,m≤20000→dD (((elO d1).drop i).map abD)≤20000→Qf (.val (.d (.int .i64 (bif gtI 256 ((max m (dD (((elO d1).drop i).map abD)):Nat):Int) then 4 else 0)))) g→L62_17 (m:Int) d1 ((elO d1).length:Int) (i:Int) g Qf) ?_ ?_ 0 (Nat.zero_le _) m hm hdp hQ
 ·intro m hm hdp hQ;refine w62_17 ?_;rw[Bg];rw[List.drop_length] at hQ;simp only[List.map_nil,dD,Nat.max_zero] at hQ;refine Bi.2 ⟨λq=>?_,λq=>?_⟩
  ·rw[show gtI 256 _=true from q] at hQ;exact hQ
  ·rw[show gtI 256 _=false from q] at hQ;exact hQ
 ·intro i hi ih m hm hdp hQ;refine w62_17 ?_;rw[Bl hi,geE hi];rw[dm hi,dD,asD] at hdp hQ;obtain⟨s2,a2,b2,p2,e2,_,ha2,hb2⟩:=det (ed.2 _ (List.getElem_mem hi));rw[e2] at hdp hQ⊢;have hf:fld (Dat.agg [.str s2,a2,b2,.int .i64 p2]) 2=b2:=rfl;rw[hf] at hdp hQ⊢;refine⟨inB hi,liC hb2 m hm (by omega) ?_⟩;rw[wra (by omega)];exact ih _ (by omega) (by omega) (by rw[Nat.max_assoc];exact hQ)
theorem liB{d1 y:Dat}(hd:Ha TT 22 d1)(hT:(((elO d1).map abD).any bD=true)→Qf (.val (.d (.int .i64 3))) g)(hF:(((elO d1).map abD).any bD=false)→EvF TT 103 [sub y 1 7] g (KQ Qf λv g'=>∃n,v=Val.d (.int .i64 n)∧L62_17 n (fld y 0) ((elO (fld y 0)).length:Int) 0 g' Qf)):L62_4 d1 ((elO d1).length:Int) 0 y g Qf:=by
 have ed:=hd.els uD;have edl:=ed.1.1;refine lU (len:=(elO d1).length) (λi=>((((elO d1).drop i).map abD).any bD=true→Qf (.val (.d (.int .i64 3))) g)→((((elO d1).drop i).map abD).any bD=false→EvF TT 103 [sub y 1 7] g (KQ Qf λv g'=>∃n,v=Val.d (.int .i64 n)∧L62_17 n (fld y 0) ((elO (fld y 0)).length:Int) 0 g' Qf))→L62_4 d1 ((elO d1).length:Int) (i:Int) y g Qf) ?_ ?_ 0 (Nat.zero_le _) hT hF
 ·intro hT hF;refine w62_4 ?_;rw[Bg];exact hF (by rw[List.drop_length];rfl)
 ·intro i hi ih hT hF;refine w62_4 ?_;rw[Bl hi,geE hi];rw[dm hi,List.any_cons] at hT hF;obtain⟨s2,a2,b2,p2,e2,_,ha2,hb2⟩:=det (ed.2 _ (List.getElem_mem hi));have eb:=hb2.els uC;have ebl:=eb.1.1;have hbad:bD (abD (elO d1)[i])=(gtI 4 ((elO a2).length:Int)||(gtI 32 ((elO b2).length:Int)||((elO b2).map aC).any bC)):=by
   rw[e2];unfold bD;rw[abp,asD,List.length_map,List.length_map];rfl
  rw[hbad] at hT hF;rw[e2];refine⟨inB hi,Bi.2 ⟨λq=>hT (by rw[show gtI 4 ((elO a2).length:Int)=true from q];rfl),λq=>Bi.2 ⟨λq'=>hT (by rw[show gtI 32 ((elO b2).length:Int)=true from q'];simp),λq'=>?_⟩⟩⟩;rw[show gtI 4 ((elO a2).length:Int)=false from q,show gtI 32 ((elO b2).length:Int)=false from q'] at hT hF;simp only[Bool.false_or] at hT hF;have hf:fld (Dat.agg [.str s2,a2,b2,.int .i64 p2]) 2=b2:=rfl;rw[hf];refine lU (len:=(elO b2).length) (λj=>(((((elO b2).drop j).map aC).any bC||(((elO d1).drop (i+1)).map abD).any bD)=true→Qf (.val (.d (.int .i64 3))) g)→(((((elO b2).drop j).map aC).any bC||(((elO d1).drop (i+1)).map abD).any bD)=false→EvF TT 103 [sub y 1 7] g (KQ Qf λv g'=>∃n,v=Val.d (.int .i64 n)∧L62_17 n (fld y 0) ((elO (fld y 0)).length:Int) 0 g' Qf))→L62_9 d1 ((elO d1).length:Int) (i:Int) b2 ((elO b2).length:Int) (j:Int) y g Qf) ?_ ?_ 0 (Nat.zero_le _) hT hF
  ·intro hT hF;refine w62_9 ?_;rw[Bg,wra (by omega)];rw[List.drop_length] at hT hF;exact ih (λh=>hT (by rw[h];rfl)) (λh=>hF (by rw[h];rfl))
  ·intro j hj ihj hT hF;refine w62_9 ?_;rw[Bl hj,geE hj];rw[dm hj,List.any_cons,Bool.or_assoc] at hT hF;have hc:bC (aC (elO b2)[j])=gtI 8 ((elO (fld (elO b2)[j] 1)).length:Int):=by
    unfold bC;rw[abn]
   rw[hc] at hT hF;refine⟨inB hj,Bi.2 ⟨λq=>hT (by rw[show gtI 8 ((elO (fld (elO b2)[j] 1)).length:Int)=true from q];rfl),λq=>?_⟩⟩;rw[show gtI 8 ((elO (fld (elO b2)[j] 1)).length:Int)=false from q] at hT hF;simp only[Bool.false_or] at hT hF;rw[wra (by omega)];exact ihj hT hF
theorem lii{x:Dat}(hx:Ha TT 28 x)(hp:Pre (abg x))(hQ:Qf (.val (.d (.int .i64 (lF (nwx (abg x).e) (abg x))))) g):EvF TT 62 [x] g Qf:=by
 refine w62 hx ?_;unfold lF at hQ;have hpd:=hp.ds;have hpe:=hp.dp;obtain⟨d1,k1,s1,r1,n1,a1,b1,p1,rfl,hd1,he1⟩:=pro hx;have e0:(abg (.agg [d1,.int .i64 k1,.str s1,.str r1,.int .i64 n1,a1,b1,.int .i64 p1])).ds=(elO d1).map abD:=rfl;have e1:(abg (.agg [d1,.int .i64 k1,.str s1,.str r1,.int .i64 n1,a1,b1,.int .i64 p1])).e=ax (.agg [.int .i64 k1,.str s1,.str r1,.int .i64 n1,a1,b1,.int .i64 p1]):=rfl;rw[e0] at hpd;have hdd:dD ((elO d1).map abD)≤20000:=by
  have:∀l:List Dc,(∀d∈l,∀c∈d.cs,∀t∈c.fs,dTy t≤20000)→dD l≤20000:=by
   intro l
   induction l with
   |nil=>intro _;exact Nat.zero_le _
   |cons d l ih=>
    intro h;have h1:=dpn (h d List.mem_cons_self);have h2:=ih λd hd=>h d (List.mem_cons_of_mem _ hd);simp only[dD];omega
  exact this _ λd hd c hc t ht=>((hpd d hd).2 c hc t ht).2.1
 rw[e0,List.length_map] at hQ;refine Bi.2 ⟨λq=>?_,λq=>paz _ g hx _ ⟨_,rfl,Bi.2 ⟨λq'=>?_,λq'=>nar _ _ g (Nat.lt_succ_self _) he1 _ ⟨_,rfl,Bi.2 ⟨λq2=>?_,λq2=>?_⟩⟩⟩⟩⟩
 ·rw[show gtI 32 ((elO d1).length:Int)=true from q] at hQ;exact hQ
 ·rw[show gtI 2048 _=true from q'] at hQ
  simpa using hQ
 ·rw[e1,show nwx _=false by simpa using q2] at hQ
  simpa using hQ
 ·rw[show gtI 32 ((elO d1).length:Int)=false from q,show gtI 2048 _=false from q',e1,show nwx _=true by simpa using q2] at hQ;simp only[Bool.not_true,Bool.or_false,cond_false] at hQ;refine liB hd1 (λh=>?_) (λh=>dpo _ _ g (Nat.lt_succ_self _) he1 hpe _ ⟨_,rfl,liD hd1 _ hpe hdd ?_⟩)
  ·rw[show((elO d1).map abD).any bD=true from h] at hQ;exact hQ
  ·rw[show((elO d1).map abD).any bD=false from h] at hQ;exact hQ
end
end Go.Proofs.YtiheejdkkjfenaaGreatDoor.Pa
namespace Go.Proofs.YtiheejdkkjfenaaGreatDoor.Pa
open Go Go.Proofs.YtiheejdkkjfenaaGreatDoor.Am
def gA0(n:Nat):Bool:=decide (256<n)
theorem gma(a b:Nat):gA0 (max a b)=(gA0 a||gA0 b):=by
 unfold gA0;rw[Bool.eq_iff_iff];simp only[Bool.or_eq_true,decide_eq_true_eq];omega
theorem gI(n:Nat):gtI 256 (n:Int)=gA0 n:=by
 unfold gtI gA0;exact decide_eq_decide.2 (by omega)
section
variable{g:Glob}{Qf:OGP}
def lA0(bad deep:Bool):Int:=bif bad then 3 else bif deep then 4 else 0
theorem rli{y5 y1 c1 f1:Dat}{q n4:Nat}(hq:q<(elO (fld y5 2)).length)(hc:(elO (fld y5 2))[q]=c1)(hf1:fld c1 1=f1)(hf:Ha TT 59 f1)(b:Bool)(h:L87_11 (b||gA0 (dpT ((elO f1).map aT))) (n4:Int) (IntKind.i64.wrap ((q:Int)+1)) y5 y1 g Qf):
 L87_16 b (n4:Int) (q:Int) 0 y5 y1 g Qf:=by
 have ef:=hf.els uT;have efl:=ef.1.1;refine lU (len:=(elO f1).length) (λi=>∀b:Bool,L87_11 (b||gA0 (dpT (((elO f1).drop i).map aT))) (n4:Int) (IntKind.i64.wrap ((q:Int)+1)) y5 y1 g Qf→L87_16 b (n4:Int) (q:Int) (i:Int) y5 y1 g Qf) ?_ ?_ 0 (Nat.zero_le _) b h
 ·intro b h;refine w87_16 ⟨inB hq,?_⟩;rw[geE hq,hc,hf1,Bg];rw[List.drop_length] at h;rw[show(b||gA0 (dpT (([]:List Dat).map aT)))=b by cases b<;>rfl] at h;exact h
 ·intro i hi ih b h;refine w87_16 ⟨inB hq,?_⟩;rw[geE hq,hc,hf1,Bl hi];rw[dpy hi,gma,←Bool.or_assoc] at h;cases b with
  |true=>
   rw[wra (by omega)];exact ih true (by simpa using h)
  |false=>
   refine⟨inB hq,inB hi,?_⟩;rw[geE hi];refine dee _ _ g 256 (Nat.lt_succ_self _) (ef.2 _ (List.getElem_mem hi)) (by omega) _ ⟨_,rfl,?_⟩;rw[wra (by omega)];exact ih _ h
theorem lis{x:Dat}(hx:Ha TT 28 x)(hQ:Qf (.val (.d (.int .i64 (lF (!flx (abg x).e) (abg x))))) g):EvF TT 87 [x] g Qf:=by
 refine w87 hx ?_;unfold lF at hQ;obtain⟨d1,k1,s1,r1,n1,a1,b1,p1,rfl,hd1,he1⟩:=pro hx;have e0:(abg (.agg [d1,.int .i64 k1,.str s1,.str r1,.int .i64 n1,a1,b1,.int .i64 p1])).ds=(elO d1).map abD:=rfl;have e1:(abg (.agg [d1,.int .i64 k1,.str s1,.str r1,.int .i64 n1,a1,b1,.int .i64 p1])).e=ax (.agg [.int .i64 k1,.str s1,.str r1,.int .i64 n1,a1,b1,.int .i64 p1]):=rfl;rw[e0,List.length_map,gI,Bool.not_not] at hQ;refine Bi.2 ⟨λq=>?_,λq=>ref _ g hx _ ⟨_,rfl,Bi.2 ⟨λq'=>?_,λq'=>fE _ _ g (Nat.lt_succ_self _) he1 _ ⟨_,rfl,Bi.2 ⟨λq2=>?_,λq2=>dep _ _ g 256 (Nat.lt_succ_self _) he1 (by omega) _ ⟨_,rfl,?_⟩⟩⟩⟩⟩⟩
 ·rw[show gtI 32 ((elO d1).length:Int)=true from q] at hQ;exact hQ
 ·rw[show gtI 2048 _=true from q'] at hQ
  simpa using hQ
 ·rw[e1,q2] at hQ
  simpa using hQ
 ·rw[show gtI 32 ((elO d1).length:Int)=false from q,show gtI 2048 _=false from q',e1,q2] at hQ;simp only[Bool.or_false,cond_false] at hQ;have ed:=hd1.els uD;have edl:=ed.1.1;have hQ:Qf (.val (.d (.int .i64 (lA0 (((elO d1).map abD).any bD) (decide (256<dpx (ax (.agg [.int .i64 k1,.str s1,.str r1,.int .i64 n1,a1,b1,.int .i64 p1])))||gA0 (dD ((elO d1).map abD))))))) g:=qi hQ (by
   rw[gma];rfl)
  have h0:fld (.agg [d1,.int .i64 k1,.str s1,.str r1,.int .i64 n1,a1,b1,.int .i64 p1]) 0=d1:=rfl;generalize decide (256<dpx (ax (.agg [.int .i64 k1,.str s1,.str r1,.int .i64 n1,a1,b1,.int .i64 p1])))=b at hQ;generalize hY:Dat.agg [d1,.int .i64 k1,.str s1,.str r1,.int .i64 n1,a1,b1,.int .i64 p1]=Y at h0;clear hY;refine lU (len:=(elO d1).length) (λi=>∀b:Bool,Qf (.val (.d (.int .i64 (lA0 ((((elO d1).drop i).map abD).any bD) (b||gA0 (dD (((elO d1).drop i).map abD))))))) g→L87_5 b (i:Int) Y g Qf) ?_ ?_ 0 (Nat.zero_le _) b hQ
  ·intro b hQ;refine w87_5 ?_;rw[h0,Bg];rw[List.drop_length] at hQ;cases b
   ·exact hQ
   ·exact hQ
  ·intro i hi ih b hQ;refine w87_5 ?_;rw[h0,Bl hi,geE hi];rw[dm hi,List.any_cons,dD,asD,gma] at hQ;have ht:=ed.2 _ (List.getElem_mem hi);obtain⟨s2,a2,b2,p2,e2,_,ha2,hb2⟩:=det ht;have eb:=hb2.els uC;have ebl:=eb.1.1;have hbad:bD (abD (elO d1)[i])=(gtI 4 ((elO a2).length:Int)||(gtI 32 ((elO b2).length:Int)||((elO b2).map aC).any bC)):=by
    rw[e2];unfold bD;rw[abp,asD,List.length_map,List.length_map];rfl
   rw[hbad] at hQ;rw[e2] at hQ⊢;have hf:fld (Dat.agg [.str s2,a2,b2,.int .i64 p2]) 2=b2:=rfl;have hf':fld (Dat.agg [.str s2,a2,b2,.int .i64 p2]) 1=a2:=rfl;rw[hf] at hQ;rw[hf,hf'];generalize Dat.agg [.str s2,a2,b2,.int .i64 p2]=D at hf;refine⟨inB hi,Bi.2 ⟨λq=>?_,λq=>Bi.2 ⟨λq'=>?_,λq'=>?_⟩⟩⟩
   ·rw[show gtI 4 ((elO a2).length:Int)=true from q] at hQ;exact hQ
   ·rw[show gtI 32 ((elO b2).length:Int)=true from q'] at hQ;exact qi hQ (by simp[lA0])
   ·rw[show gtI 4 ((elO a2).length:Int)=false from q,show gtI 32 ((elO b2).length:Int)=false from q'] at hQ;simp only[Bool.false_or] at hQ;refine lU (len:=(elO b2).length) (λj=>∀b:Bool,Qf (.val (.d (.int .i64 (lA0 ((((elO b2).drop j).map aC).any bC||(((elO d1).drop (i+1)).map abD).any bD) (b||(gA0 (dpC (((elO b2).drop j).map aC))||gA0 (dD (((elO d1).drop (i+1)).map abD)))))))) g→L87_11 b (i:Int) (j:Int) D Y g Qf) ?_ ?_ 0 (Nat.zero_le _) b hQ
    ·intro b hQ;refine w87_11 ?_;rw[hf,Bg,wra (by omega)];rw[List.drop_length] at hQ;exact ih b hQ
    ·intro j hj ihj b hQ;have hj':j<(elO (fld D 2)).length:=by rw[hf];exact hj
     refine w87_11 ?_;rw[Bl hj',geE hj'];rw[dm hj,List.any_cons,dpC,abC,gma] at hQ;have hcj:(elO (fld D 2))[j]=(elO b2)[j]:=by simp only[hf]
     rw[hcj];obtain⟨s3,f1,e3,_,hf1⟩:=coy (eb.2 _ (List.getElem_mem hj));have hc:bC (aC (elO b2)[j])=gtI 8 ((elO f1).length:Int):=by
      unfold bC;rw[abn,e3];rfl
     rw[hc] at hQ;rw[e3] at hQ hcj⊢;have hf2:fld (Dat.agg [.str s3,f1]) 1=f1:=rfl;rw[hf2] at hQ;rw[hf2];refine⟨inB hj',Bi.2 ⟨λq=>?_,λq=>?_⟩⟩
     ·rw[show gtI 8 ((elO f1).length:Int)=true from q] at hQ;exact hQ
     ·rw[show gtI 8 ((elO f1).length:Int)=false from q] at hQ;simp only[Bool.false_or] at hQ;refine rli hj' hcj hf2 hf1 b ?_;rw[wra (by omega)];refine ihj _ (qi hQ ?_);rw[Bool.or_assoc b,Bool.or_assoc]
def oC(c:Cn):Bool:=wUp c.s&&okT c.fs
def oDc(d:Dc):Bool:=ww d.s&&(!((d.cs.length:Int)==0)&&(d.ps.all wV&&d.cs.all oC))
theorem deO{x:Dat}(hx:Ha TT 84 x)(hp:(∀s∈(abD x).ps,s.length<2^40)∧∀c∈(abD x).cs,∀t∈c.fs,vrT t=true)(hQ:Qf (.val (.d (.bool (oDc (abD x))))) g):EvF TT 108 [x] g Qf:=by
 refine w108 hx ?_;obtain⟨s2,a2,b2,p2,rfl,hs2,ha2,hb2⟩:=det hx;have ea:=ha2.els uS;have eal:=ea.1.1;have eb:=hb2.els uC;have ebl:=eb.1.1;have e1:oDc (abD (.agg [.str s2,a2,b2,.int .i64 p2]))=(ww s2&&(!(((elO b2).length:Int)==0)&&(((elO a2).map strOf).all wV&&((elO b2).map aC).all oC))):=by
  unfold oDc;rw[asD,abp,List.length_map];rfl
 rw[e1] at hQ;obtain⟨hp1,hp2⟩:=hp;have hp1:∀s∈(elO a2).map strOf,s.length<2^40:=hp1;have hp2:∀c∈(elO b2).map aC,∀t∈c.fs,vrT t=true:=hp2;simp only[fld,nth,strOf];have cons:Qf (.val (.d (.bool (((elO b2).map aC).all oC)))) g→L108_10 b2 ((elO b2).length:Int) 0 g Qf:=by
  refine lU (len:=(elO b2).length) (λi=>Qf (.val (.d (.bool ((((elO b2).drop i).map aC).all oC)))) g→L108_10 b2 ((elO b2).length:Int) (i:Int) g Qf) ?_ ?_ 0 (Nat.zero_le _)
  ·intro hQ;refine w108_10 ?_;rw[Bg];rw[List.drop_length] at hQ;exact hQ
  ·intro i hi ih hQ;refine w108_10 ?_;rw[Bl hi,geE hi];rw[dm hi,List.all_cons,oC,abC] at hQ;have hp3:=hp2 _ (List.mem_map.2 ⟨_,List.getElem_mem hi,rfl⟩);rw[abC] at hp3;obtain⟨s3,f1,e3,hs3,hf1⟩:=coy (eb.2 _ (List.getElem_mem hi));have ef:=hf1.els uT;rw[e3] at hQ hp3⊢;have hf2:fld (Dat.agg [.str s3,f1]) 1=f1:=rfl;rw[hf2] at hQ hp3⊢;have hsx:(aC (.agg [.str s3,f1])).s=s3:=rfl;rw[hsx] at hQ;refine⟨inB hi,wU hs3 ⟨_,rfl,Bi.2 ⟨λq=>?_,λq=>?_⟩⟩⟩
   ·rw[show wUp s3=false from by have q:(!wUp s3)=true:=q;simpa using q] at hQ;exact hQ
   ·rw[show wUp s3=true from by have q:(!wUp s3)=false:=q;simpa using q] at hQ;refine coi (p:=λy=>!oky (aT y)) hf1 (λy hy Q q=>w178 (ef.2 _ hy) (tyO _ y g (Nat.lt_succ_self _) (ef.2 _ hy) (hp3 _ (List.mem_map.2 ⟨_,hy,rfl⟩)) _ ⟨_,rfl,q⟩)) ⟨_,rfl,?_⟩;rw[oka,wra (by omega)];refine Bi.2 ⟨λq=>?_,λq=>?_⟩
    ·rw[show okT _=false by simpa using q] at hQ;exact hQ
    ·rw[show okT _=true by simpa using q] at hQ;exact ih hQ
 refine wL hs2 ⟨_,rfl,Bi.2 ⟨λq=>?_,λq=>Bi.2 ⟨λq'=>?_,λq'=>?_⟩⟩⟩
 ·rw[show ww s2=false by simpa using q] at hQ;exact hQ
 ·rw[q'] at hQ;exact qca hQ (by simp)
 ·rw[show ww s2=true by simpa using q,q'] at hQ;simp only[Bool.true_and,Bool.not_false] at hQ;refine lU (len:=(elO a2).length) (λi=>Qf (.val (.d (.bool ((((elO a2).drop i).map strOf).all wV&&((elO b2).map aC).all oC)))) g→L108_4 a2 ((elO a2).length:Int) (i:Int) (.agg [.str s2,a2,b2,.int .i64 p2]) g Qf) ?_ ?_ 0 (Nat.zero_le _) hQ
  ·intro hQ;refine w108_4 ?_;rw[Bg];rw[List.drop_length] at hQ;exact cons hQ
  ·intro i hi ih hQ;refine w108_4 ?_;rw[Bl hi,geE hi];rw[dm hi,List.all_cons] at hQ;have hp3:=hp1 _ (List.mem_map.2 ⟨_,List.getElem_mem hi,rfl⟩);obtain⟨t1,d1,_⟩:=srt (ea.2 _ (List.getElem_mem hi));rw[d1] at hQ hp3⊢;refine⟨inB hi,wod (s:=t1) hp3 ⟨_,rfl,Bi.2 ⟨λq=>?_,λq=>?_⟩⟩⟩
   ·rw[show wV (strOf (.str t1))=false from by have q:(!wV t1)=true:=q;show wV t1=false;simpa using q] at hQ;exact hQ
   ·rw[show wV (strOf (.str t1))=true from by have q:(!wV t1)=false:=q;show wV t1=true;simpa using q] at hQ;rw[wra (by omega)];exact ih hQ
def che(P:Pg):Bool:=(lF (nwx P.e) P==0)&&(okE P.e&&P.ds.all oDc)
theorem oDa(xs:List Dat):xs.any (λy=>!oDc (abD y))=!(xs.map abD).all oDc:=by induction xs with
 |nil=>rfl
 |cons x xs ih=>simp[ih]
theorem pae{x:Dat}(hx:Ha TT 28 x)(hp:Pre (abg x))(hQ:Qf (.val (.d (.bool (che (abg x))))) g):EvF TT 63 [x] g Qf:=by
 refine w63 hx (lii hx hp ⟨_,rfl,?_⟩);unfold che at hQ;have hpd:=hp.ds;obtain⟨d1,k1,s1,r1,n1,a1,b1,p1,rfl,hd1,he1⟩:=pro hx;have e0:(abg (.agg [d1,.int .i64 k1,.str s1,.str r1,.int .i64 n1,a1,b1,.int .i64 p1])).ds=(elO d1).map abD:=rfl;have e1:(abg (.agg [d1,.int .i64 k1,.str s1,.str r1,.int .i64 n1,a1,b1,.int .i64 p1])).e=ax (.agg [.int .i64 k1,.str s1,.str r1,.int .i64 n1,a1,b1,.int .i64 p1]):=rfl;have ed:=hd1.els uD;rw[e0] at hQ hpd;refine Bi.2 ⟨λq=>?_,λq=>exO _ _ g (Nat.lt_succ_self _) he1 _ ⟨_,rfl,Bi.2 ⟨λq'=>?_,λq'=>?_⟩⟩⟩
 ·rw[show(lF _ _==0)=false by simpa using q] at hQ;exact hQ
 ·rw[e1,show okE _=false by simpa using q'] at hQ;exact qca hQ (by simp)
 ·rw[show(lF _ _==0)=true by simpa using q,e1,show okE _=true by simpa using q'] at hQ;simp only[Bool.true_and] at hQ;refine cna (p:=λy=>!oDc (abD y)) hd1 (λy hy Q q=>w107 (ed.2 _ hy) (deO (ed.2 _ hy) (by
   have:=hpd _ (List.mem_map.2 ⟨_,hy,rfl⟩);exact⟨this.1,λc hc t ht=>(this.2 c hc t ht).2.2⟩) ⟨_,rfl,q⟩)) ⟨_,rfl,qca hQ ?_⟩
  rw[oDa,Bool.not_not];rfl
def rDc(d:Dc):Bool:=oDc d&&(!bD d&&!gA0 (dpC d.cs))
def rC(P:Pg):Bool:=!gtI 32 P.ds.length&&(!gtI 2048 (upto 0 (szx P.e))&&(P.ds.all rDc&&((lF (!flx P.e) P==0)&&okE P.e)))
theorem chP(P:Pg):che P=rC P:=by
 unfold che rC;cases ho:okE P.e with
 |false=>simp
 |true=>
  rw[nfl _ ho]
  by_cases hl:lF (!flx P.e) P=0
  ·rw[hl];unfold lF at hl;cases h1:gtI 32 P.ds.length with
   |true=>rw[h1] at hl;exact absurd hl (by simp)
   |false=>
    cases h2:gtI 2048 (upto 0 (szx P.e)) with
    |true=>rw[h1,h2] at hl;exact absurd hl (by simp)
    |false=>
     rw[h1,h2] at hl;cases hf:flx P.e with
     |true=>rw[hf] at hl;exact absurd hl (by simp)
     |false=>
      rw[hf] at hl;cases hb:P.ds.any bD with
      |true=>rw[hb] at hl;exact absurd hl (by simp)
      |false=>
       rw[hb,gI,gma] at hl;have hd:gA0 (dD P.ds)=false:=by
        cases hd:gA0 (dD P.ds) with
        |false=>rfl
        |true=>rw[hd] at hl;exact absurd hl (by simp)
       have key:∀l:List Dc,l.any bD=false→gA0 (dD l)=false→l.all oDc=l.all rDc:=by
        intro l
        induction l with
        |nil=>intro _ _;rfl
        |cons d l ih=>
         intro hb hd;rw[List.any_cons,Bool.or_eq_false_iff] at hb;rw[dD,gma,Bool.or_eq_false_iff] at hd;rw[List.all_cons,List.all_cons,ih hb.2 hd.2,rDc,hb.1,hd.1];simp
       rw[key _ hb hd];simp
  ·rw[show(lF (!flx P.e) P==0)=false by simpa using hl];simp
end
end Go.Proofs.YtiheejdkkjfenaaGreatDoor.Pa
namespace Go.Proofs.YtiheejdkkjfenaaGreatDoor.Pa
open Go Go.Proofs.YtiheejdkkjfenaaGreatDoor.Am
end Go.Proofs.YtiheejdkkjfenaaGreatDoor.Pa
namespace Go.Proofs.YtiheejdkkjfenaaGreatDoor.Pa
open Go Go.Proofs.YtiheejdkkjfenaaGreatDoor.Am
def fdO(t:Ty):Bool:=!gA0 (dTy t)&&oky t
def cOk(c:Cn):Bool:=wUp c.s&&(!bC c&&c.fs.all fdO)
theorem fdk(l:List Ty):l.all fdO=(okT l&&!gA0 (dpT l)):=by induction l with
 |nil=>rfl
 |cons t l ih=>
  rw[List.all_cons,ih,okT,dpT,gma,fdO];cases oky t<;>cases gA0 (dTy t)<;>cases okT l<;>cases gA0 (dpT l)<;>rfl
theorem cnl(l:List Cn):l.all cOk=(l.all oC&&(!l.any bC&&!gA0 (dpC l))):=by induction l with
 |nil=>rfl
 |cons c l ih=>
  rw[List.all_cons,ih,List.all_cons,List.any_cons,dpC,gma,cOk,oC,fdk];cases wUp c.s<;>cases bC c<;>cases okT c.fs<;>cases gA0 (dpT c.fs)<;>cases l.all oC<;>cases l.any bC<;>cases gA0 (dpC l)<;>rfl
theorem rDe(d:Dc):rDc d=(ww d.s&&(!((d.cs.length:Int)==0)&&(!gtI 32 d.cs.length&&(!gtI 4 d.ps.length&&(d.ps.all wV&&d.cs.all cOk))))):=by
 rw[cnl,rDc,oDc,bD];cases ww d.s<;>cases ((d.cs.length:Int)==0)<;>cases gtI 32 d.cs.length<;>cases gtI 4 d.ps.length<;>cases d.ps.all wV<;>cases d.cs.all oC<;>cases d.cs.any bC<;>cases gA0 (dpC d.cs)<;>rfl
section
variable{g:Glob}{Qf:OGP}
theorem nb{b:Bool}(h:(!b)=true):b=false:=by simpa using h
theorem nb'{b:Bool}(h:(!b)=false):b=true:=by simpa using h
theorem rcF{y4 y1 c1 f1:Dat}{R:Bool}{q n3:Nat}(hq:q<(elO (fld y4 2)).length)(hc:(elO (fld y4 2))[q]=c1)(hf1:fld c1 1=f1)(hf:Ha TT 59 f1)(hs:∀t∈(elO f1).map aT,ndy t≤20000∧dTy t≤20000)
 (hF:Qf (.val (.d (.bool false))) g) (h:((elO f1).map aT).all fdO=true→L52_15 (n3:Int) (IntKind.i64.wrap ((q:Int)+1)) y4 y1 g Qf):
 L52_20 (n3:Int) (q:Int) 0 y4 y1 g Qf:=by
 have ef:=hf.els uT;have efl:=ef.1.1;refine lU (len:=(elO f1).length) (λi=>((((elO f1).drop i).map aT).all fdO=true→L52_15 (n3:Int) (IntKind.i64.wrap ((q:Int)+1)) y4 y1 g Qf)→L52_20 (n3:Int) (q:Int) (i:Int) y4 y1 g Qf) ?_ ?_ 0 (Nat.zero_le _) h
 ·intro h;refine w52_20 ⟨inB hq,?_⟩;rw[geE hq,hc,hf1,Bg];exact h (by rw[List.drop_length];rfl)
 ·intro i hi ih h;refine w52_20 ⟨inB hq,?_⟩;rw[geE hq,hc,hf1,Bl hi,geE hi];rw[dm hi,List.all_cons,fdO] at h;obtain⟨n1,n2⟩:=hs _ (List.mem_map.2 ⟨_,List.getElem_mem hi,rfl⟩);refine⟨inB hq,inB hi,dee _ _ g 256 (Nat.lt_succ_self _) (ef.2 _ (List.getElem_mem hi)) (by omega) _ ⟨_,rfl,Bi.2 ⟨λ_=>hF,λp=>⟨inB hq,inB hi,rTy _ _ g 1048576 (Nat.lt_succ_self _) (ef.2 _ (List.getElem_mem hi)) (by omega) (by omega) _ ⟨_,rfl,Bi.2 ⟨λ_=>hF,λp'=>?_⟩⟩⟩⟩⟩⟩;have ho:oky (aT (elO f1)[i])=true:=by
   cases ho:oky (aT (elO f1)[i]) with
   |true=>rfl
   |false=>rw[ho] at p';exact absurd p' (by simp)
  rw[show gA0 (dTy (aT (elO f1)[i]))=false from p,ho] at h;rw[wra (by omega)];exact ih (by simpa using h)
theorem rCc{x:Dat}(hx:Ha TT 28 x)(hp:Pre (abg x))(hQ:Qf (.val (.d (.bool (rC (abg x))))) g):EvF TT 52 [x] g Qf:=by
 refine w52 hx ?_;unfold rC at hQ;have hpd:=hp.ds;have hlim:∀Q:Out→Glob→Prop,Q (.val (.d (.int .i64 (lF (!flx (abg x).e) (abg x))))) g→EvF TT 87 [x] g Q:=λQ h=>lis hx h;have hsz:∀Q:Out→Glob→Prop,Q (.val (.d (.int .i64 (upto 0 (szx (abg x).e))))) g→EvF TT 8 [x] g Q:=λQ h=>ref x g hx Q h;obtain⟨d1,k1,s1,r1,n1,a1,b1,p1,rfl,hd1,he1⟩:=pro hx;have e0:(abg (.agg [d1,.int .i64 k1,.str s1,.str r1,.int .i64 n1,a1,b1,.int .i64 p1])).ds=(elO d1).map abD:=rfl;have e1:(abg (.agg [d1,.int .i64 k1,.str s1,.str r1,.int .i64 n1,a1,b1,.int .i64 p1])).e=ax (.agg [.int .i64 k1,.str s1,.str r1,.int .i64 n1,a1,b1,.int .i64 p1]):=rfl;have hfin:∀Q:Out→Glob→Prop,Q (.val (.d (.bool (okE (abg (.agg [d1,.int .i64 k1,.str s1,.str r1,.int .i64 n1,a1,b1,.int .i64 p1])).e)))) g→EvF TT 88 [sub (.agg [d1,.int .i64 k1,.str s1,.str r1,.int .i64 n1,a1,b1,.int .i64 p1]) 1 7] g Q:=λQ h=>rE _ _ g (Nat.lt_succ_self _) he1 Q h;have h0:fld (.agg [d1,.int .i64 k1,.str s1,.str r1,.int .i64 n1,a1,b1,.int .i64 p1]) 0=d1:=rfl;rw[e0,List.length_map] at hQ;rw[e0] at hpd;have ed:=hd1.els uD;have edl:=ed.1.1;generalize Dat.agg [d1,.int .i64 k1,.str s1,.str r1,.int .i64 n1,a1,b1,.int .i64 p1]=Y at*;rw[h0];generalize (lF (!flx (abg Y).e) (abg Y))=LM at*;generalize okE (abg Y).e=OE at*;refine Bi.2 ⟨λq=>?_,λq=>hsz _ ⟨_,rfl,Bi.2 ⟨λq'=>?_,λq'=>?_⟩⟩⟩
 ·rw[show gtI 32 ((elO d1).length:Int)=true from q] at hQ;exact hQ
 ·rw[show gtI 2048 _=true from q'] at hQ;exact qca hQ (by simp)
 ·rw[show gtI 32 ((elO d1).length:Int)=false from q,show gtI 2048 _=false from q'] at hQ;simp only[Bool.not_false,Bool.true_and] at hQ;refine lU (len:=(elO d1).length) (λi=>Qf (.val (.d (.bool ((((elO d1).drop i).map abD).all rDc&&((LM==0)&&OE))))) g→L52_4 (i:Int) Y g Qf) ?_ ?_ 0 (Nat.zero_le _) hQ
  ·intro hQ;refine w52_4 ?_;rw[h0,Bg];rw[List.drop_length] at hQ;refine hlim _ ⟨_,rfl,Bi.2 ⟨λq=>hfin _ ⟨_,rfl,?_⟩,λq=>?_⟩⟩
   ·rw[q] at hQ;exact hQ
   ·rw[q] at hQ;exact hQ
  ·intro i hi ih hQ;refine w52_4 ?_;rw[h0,Bl hi,geE hi];rw[dm hi,List.all_cons,rDe] at hQ;have hpi:=hpd _ (List.mem_map.2 ⟨_,List.getElem_mem hi,rfl⟩);obtain⟨s2,a2,b2,p2,e2,hs2,ha2,hb2⟩:=det (ed.2 _ (List.getElem_mem hi));have ea:=ha2.els uS;have eal:=ea.1.1;have eb:=hb2.els uC;have ebl:=eb.1.1;rw[asD,abp,List.length_map,List.length_map] at hQ;rw[e2] at hQ hpi⊢;have f1:fld (Dat.agg [.str s2,a2,b2,.int .i64 p2]) 1=a2:=rfl;have f2:fld (Dat.agg [.str s2,a2,b2,.int .i64 p2]) 2=b2:=rfl;have f3:(abD (Dat.agg [.str s2,a2,b2,.int .i64 p2])).s=s2:=rfl;have f4:strOf (fld (Dat.agg [.str s2,a2,b2,.int .i64 p2]) 0)=s2:=rfl;have hpc:∀c∈(elO b2).map aC,∀t∈c.fs,ndy t≤20000∧dTy t≤20000:=λc hc t ht=>⟨(hpi.2 c hc t ht).1,(hpi.2 c hc t ht).2.1⟩
   rw[f1,f2,f3] at hQ;rw[f1,f2,f4];generalize Dat.agg [.str s2,a2,b2,.int .i64 p2]=D at f1 f2;refine⟨inB hi,rW hs2 ⟨_,rfl,Bi.2 ⟨λq=>?_,λq=>Bi.2 ⟨λq1=>?_,λq1=>Bi.2 ⟨λq2=>?_,λq2=>Bi.2 ⟨λq3=>?_,λq3=>?_⟩⟩⟩⟩⟩⟩
   ·rw[nb q] at hQ;exact hQ
   ·rw[q1] at hQ;exact qca hQ (by simp)
   ·rw[show gtI 32 ((elO b2).length:Int)=true from q2] at hQ;exact qca hQ (by simp)
   ·rw[show gtI 4 ((elO a2).length:Int)=true from q3] at hQ;exact qca hQ (by simp)
   ·rw[nb' q,q1,show gtI 32 ((elO b2).length:Int)=false from q2,show gtI 4 ((elO a2).length:Int)=false from q3] at hQ;simp only[Bool.true_and,Bool.not_false] at hQ;have cons:Qf (.val (.d (.bool (((elO b2).map aC).all cOk&&((((elO d1).drop (i+1)).map abD).all rDc&&((LM==0)&&OE)))))) g→L52_15 (i:Int) 0 D Y g Qf:=by
     intro hQ;refine lU (len:=(elO b2).length) (λj=>Qf (.val (.d (.bool ((((elO b2).drop j).map aC).all cOk&&((((elO d1).drop (i+1)).map abD).all rDc&&((LM==0)&&OE)))))) g→L52_15 (i:Int) (j:Int) D Y g Qf) ?_ ?_ 0 (Nat.zero_le _) hQ
     ·intro hQ;refine w52_15 ?_;rw[f2,Bg,wra (by omega)];rw[List.drop_length] at hQ;exact ih hQ
     ·intro j hj ihj hQ;have hj':j<(elO (fld D 2)).length:=by rw[f2];exact hj
      refine w52_15 ?_;rw[Bl hj',geE hj'];rw[dm hj,List.all_cons,cOk,abC] at hQ;have hcj:(elO (fld D 2))[j]=(elO b2)[j]:=by simp only[f2]
      rw[hcj];have hpj:=hpc _ (List.mem_map.2 ⟨_,List.getElem_mem hj,rfl⟩);rw[abC] at hpj;obtain⟨s3,f5,e3,hs3,hf5⟩:=coy (eb.2 _ (List.getElem_mem hj));have hc:bC (aC (elO b2)[j])=gtI 8 ((elO f5).length:Int):=by
       unfold bC;rw[abn,e3];rfl
      rw[hc] at hQ;rw[e3] at hQ hcj hpj⊢;have hf2:fld (Dat.agg [.str s3,f5]) 1=f5:=rfl;have hf3:(aC (Dat.agg [.str s3,f5])).s=s3:=rfl;have hf4:strOf (fld (Dat.agg [.str s3,f5]) 0)=s3:=rfl;rw[hf2,hf3] at hQ;rw[hf2] at hpj;rw[hf2,hf4];refine⟨inB hj',rup hs3 ⟨_,rfl,Bi.2 ⟨λq=>?_,λq=>⟨inB hj',Bi.2 ⟨λq1=>?_,λq1=>?_⟩⟩⟩⟩⟩
      ·rw[nb q] at hQ;exact hQ
      ·rw[show gtI 8 ((elO f5).length:Int)=true from q1] at hQ;exact qca hQ (by simp)
      ·rw[nb' q,show gtI 8 ((elO f5).length:Int)=false from q1] at hQ;simp only[Bool.true_and,Bool.not_false] at hQ;cases hall:((elO f5).map aT).all fdO with
       |false=>
        rw[hall] at hQ;exact rcF (R:=false) hj' hcj hf2 hf5 hpj hQ (λh=>by rw[hall] at h;cases h)
       |true=>
        rw[hall,Bool.true_and] at hQ
        by_cases hF:((((elO b2).drop (j+1)).map aC).all cOk&&((((elO d1).drop (i+1)).map abD).all rDc&&((LM==0)&&OE)))=false
        ·rw[hF] at hQ;refine rcF (R:=false) hj' hcj hf2 hf5 hpj hQ (λ_=>?_);rw[wra (by omega)];exact ihj (by rw[hF];exact hQ)
        ·have hx:L52_15 (i:Int) (IntKind.i64.wrap ((j:Int)+1)) D Y g Qf:=by
          rw[wra (by omega)];exact ihj hQ
         -- no field fails here:the loop is walked once more,without a way out
         have ef:=hf5.els uT;have efl:=ef.1.1;refine lU (len:=(elO f5).length) (λi'=>(((elO f5).drop i').map aT).all fdO=true→L52_20 (i:Int) (j:Int) (i':Int) D Y g Qf) ?_ ?_ 0 (Nat.zero_le _) hall
         ·intro _;refine w52_20 ⟨inB hj',?_⟩;rw[geE hj',hcj,hf2,Bg];exact hx
         ·intro i' hi' ih' h;refine w52_20 ⟨inB hj',?_⟩;rw[geE hj',hcj,hf2,Bl hi',geE hi'];rw[dm hi',List.all_cons,fdO,Bool.and_eq_true,Bool.and_eq_true] at h;obtain⟨n1,n2⟩:=hpj _ (List.mem_map.2 ⟨_,List.getElem_mem hi',rfl⟩);refine⟨inB hj',inB hi',dee _ _ g 256 (Nat.lt_succ_self _) (ef.2 _ (List.getElem_mem hi')) (by omega) _ ⟨_,rfl,?_⟩⟩;rw[show decide (256<dTy (aT (elO f5)[i']))=false by simpa[gA0] using h.1.1,Bf];refine⟨inB hj',inB hi',rTy _ _ g 1048576 (Nat.lt_succ_self _) (ef.2 _ (List.getElem_mem hi')) (by omega) (by omega) _ ⟨_,rfl,?_⟩⟩;rw[h.1.2,wra (by omega),cond_true,show decide (((1048576-ndy (aT (elO f5)[i']):Nat):Int)<0)=false from decide_eq_false (by omega),Bf];exact ih' h.2
    refine lU (len:=(elO a2).length) (λj=>Qf (.val (.d (.bool ((((elO a2).drop j).map strOf).all wV&&(((elO b2).map aC).all cOk&&((((elO d1).drop (i+1)).map abD).all rDc&&((LM==0)&&OE))))))) g→L52_10 (i:Int) (j:Int) D Y g Qf) ?_ ?_ 0 (Nat.zero_le _) (qca hQ (by rw[List.drop_zero];simp only[Bool.and_assoc]))
    ·intro hQ;refine w52_10 ?_;rw[f1,Bg];rw[List.drop_length] at hQ;exact cons hQ
    ·intro j hj ihj hQ;have hj':j<(elO (fld D 1)).length:=by rw[f1];exact hj
     refine w52_10 ?_;rw[Bl hj',geE hj'];rw[dm hj,List.all_cons] at hQ;have hcj:(elO (fld D 1))[j]=(elO a2)[j]:=by simp only[f1]
     rw[hcj];obtain⟨t1,d2,ht1⟩:=srt (ea.2 _ (List.getElem_mem hj));rw[d2] at hQ⊢;refine⟨inB hj',rWo (s:=t1) true ht1 ⟨_,rfl,Bi.2 ⟨λq=>?_,λq=>?_⟩⟩⟩
     ·rw[show wV (strOf (.str t1))=false from nb q] at hQ;exact hQ
     ·rw[show wV (strOf (.str t1))=true from nb' q] at hQ;rw[wra (by omega)];exact ihj hQ
end
theorem sro{x:Dat}(h:Sr x):(strOf x).length<2^40:=by
 cases h with
 |str s h=>simp only[strOf];omega
 |_=>simp[strOf]
theorem stl{x:Dat}(h:Sr x):∀y∈elO x,Sr y:=by
 cases h with
 |sl m xs _ h=>exact h
 |_=>intro y hy;simp[elO] at hy
theorem ntm:∀{cs:List Dat} {o:Nat},nth cs o∈cs∨nth cs o=.nil
 |[],o=>.inr rfl
 |x::l,0=>.inl List.mem_cons_self
 |x::l,o+1=>by
  rcases ntm (cs:=l) (o:=o) with h|h
  ·exact .inl (List.mem_cons_of_mem _ h)
  ·exact .inr h
theorem stf{x:Dat}(h:Sr x)(o:Nat):Sr (fld x o):=by
 cases h with
 |agg cs h=>
  simp only[fld];rcases ntm (cs:=cs) (o:=o) with h'|h'
  ·exact h _ h'
  ·rw[h'];exact .nil
 |bool b=>exact .bool b
 |int k n=>exact .int k n
 |str s h=>exact .str s h
 |nil=>exact .nil
 |sl m xs hl h=>exact .sl m xs hl h
theorem vro:∀(k:Nat) (x:Dat),SizeOf.sizeOf x<k→Ha TT 61 x→Sr x→vrT (aT x)=true
 |0,x,hk,_,_=>by omega
 |k+1,x,hk,hx,hb=>by
  obtain⟨k1,s1,v1,a1,rfl,hs1,t1⟩:=tpe hx;have ex:=t1.els uT;have hc:=sO (cs:=[.int .i64 k1,.str s1,.int .i64 v1,a1]) (c:=a1) (by simp);simp only[aT,vrT,Bool.and_eq_true,decide_eq_true_eq];refine⟨sro (stf hb 1),?_⟩;rw[ay];have hall:∀y∈elO a1,vrT (aT y)=true:=λy hy=>by
   obtain⟨i,hi,rfl⟩:=List.getElem_of_mem hy;have hsz:=siz hi;exact vro k _ (by omega) (ex.2 _ hy) (stl (stf hb 3) _ hy)
  have:∀l:List Dat,(∀y∈l,vrT (aT y)=true)→vT (l.map aT)=true:=by
   intro l
   induction l with
   |nil=>intro _;rfl
   |cons y l ih=>
    intro h;rw[List.map_cons,vT,h y List.mem_cons_self,ih λz hz=>h z (List.mem_cons_of_mem _ hz)];rfl
  exact this _ hall
theorem prf{x:Dat}(hx:Ha TT 28 x)(hb:Sr x)(h1:∀d∈elO (fld x 0),SmD d)(h2:szx (abg x).e≤20000)(h3:dpx (abg x).e≤601):Pre (abg x) where
 sz:=h2
 dp:=Nat.le_trans h3 (by decide)
 ds:=by
  obtain⟨d1,k1,s1,r1,n1,a1,b1,p1,rfl,hd1,he1⟩:=pro hx;intro d hd;obtain⟨y,hy,rfl⟩:=List.mem_map.1 (show d∈(elO d1).map abD from hd);have hby:=stl (stf hb 0) y hy;have hty:=(hd1.els uD).2 y hy;refine⟨λs hs=>?_,λc hc t ht=>?_⟩
  ·obtain⟨z,hz,rfl⟩:=List.mem_map.1 (show s∈(elO (fld y 1)).map strOf from hs);exact sro (stl (stf hby 1) z hz)
  ·obtain⟨z,hz,rfl⟩:=List.mem_map.1 (show c∈(elO (fld y 2)).map aC from hc);rw[abC] at ht;obtain⟨u,hu,rfl⟩:=List.mem_map.1 ht;have hsm:=h1 y hy z hz u hu;refine⟨hsm.1,Nat.le_trans hsm.2 (by decide),?_⟩;obtain⟨s2,a2,b2,p2,rfl,_,_,hb2⟩:=det hty;have hz':z∈elO b2:=hz;have hbz:=stl (stf hby 2) z hz;have htz:=(hb2.els uC).2 z hz';obtain⟨s3,f3,rfl,_,hf3⟩:=coy htz;exact vro _ u (Nat.lt_succ_self _) ((hf3.els uT).2 u hu) (stl (stf hbz 1) u hu)
end Go.Proofs.YtiheejdkkjfenaaGreatDoor.Pa
