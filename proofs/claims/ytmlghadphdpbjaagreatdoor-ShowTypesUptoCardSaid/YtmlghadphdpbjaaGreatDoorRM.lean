/- The program's parser: whole expressions. The program's parser: declarations. -/
import Derived.Test.YtmlghadphdpbjaaGreatDoorRL
set_option linter.all false
set_option autoImplicit false
set_option maxRecDepth 100000
namespace Go.Proofs.YtmlghadphdpbjaaGreatDoor.Pa
open Go Go.Proofs.YtmlghadphdpbjaaGreatDoor.Am
variable{V:Env}{g g0 g1:Glob}{r:List Pk}{Qf Qi:Out→Glob→Prop}{α β:Type}{ab:Dat→α}{t:TypeId}
theorem grow{a d:Dat}{m:Nat}(ha:HasTy TT 22 a)(hl:(elsOf a).length≤5000)(ht:HasTy TT 25 d){d2:Dat}(e3:∃k,d2=.gsl k 7 (elsOf a++[d])):HasTy TT 22 d2:=by
 obtain⟨k,rfl⟩:=e3
 exact snoc_exprs (ex_els ha) ht (by omega)
theorem growP{a d:Dat}{m:Nat}(ha:HasTy TT 23 a)(hl:(elsOf a).length≤5000)(ht:HasTy TT 94 d){d2:Dat}(e3:∃k,d2=.gsl k 5 (elsOf a++[d])):HasTy TT 23 d2:=by
 obtain⟨k,rfl⟩:=e3
 exact snoc_pats (pt_els ha) ht (by omega)
theorem choiceStep(hV:V.Ok){n i:Nat}(I:ExP V n)(hi:i<3){x10 y4 a:Dat}{w:Str}{p:Int}(hw:getE (elsOf x10) (i:Int)=.str w)(hwl:w.length≤2^40)(hlen:(elsOf x10).length=3)(hst:PSt V g r)(hn:Nx V g0 g)(ha:HasTy TT 22 a)(hl:Lv g0.toks.length g 7 a)(hal:(elsOf a).length≤10)
 {f:Ex'→List Pk→Res Ex'} (hQ:PFin V absEx 25 g0 ((need V.en 5 w r).bind λ_ r=>(gEx V.en n r).bind f) Qf)
 (K:∀v r' d a' g',absEx d=v→elsOf a'=elsOf a++[d]→HasTy TT 22 a'→Lv g0.toks.length g' 7 a'→PSt V g' r'→Nx V g0 g'→PFin V absEx 25 g0 (f v r') Qf→L128_3 V.p x10 ((3:Nat):Int) ((i+1:Nat):Int) y4 (exD 7 [] [] 0 a' .nil p) g' Qf):
 L128_3 V.p x10 ((3:Nat):Int) (i:Int) y4 (exD 7 [] [] 0 a .nil p) g Qf:=by
 refine w128_3 ?_
 rw[Br_lt hi]
 refine⟨by rw[hlen];exact inB hi,?_⟩
 rw[show strOf (fld (getE (elsOf x10) (i:Int)) 0)=w by rw[hw];rfl]
 refine pskip hV hst (by decide) hwl hQ hn (λ_ _ h=>h) λg3 q3 hst3 hn3 _ hQ3=>⟨trivial,?_⟩
 refine I.ex hst3 (hQ3.call hn3 (λ_ _ h=>h) λv r' d g' he hd ht hst' hn' hn'' hQ'=>⟨d,ht,rfl,fit20 (by decide) (by show(elsOf a).length+1≤_;omega),?_⟩)
 obtain⟨d2,g2,e1,e2,e3,hl2,hn2,hst2,_⟩:=papp hn' ((hl.nx (V:=V) (g1:=g3) (by assumption)).nx hn'') hst'
 refine⟨d2,g2,e1,?_⟩
 rw[wrap_nat (by omega)]
 exact K v r' d d2 g2 hd e2 (grow (m:=0) ha (by omega) ht e3) hl2 hst2 hn2 hQ'
theorem choicePat(hV:V.Ok){i:Nat}(hi:i<2){x27 y4 a b:Dat}{w:Str}{p:Int}(hw:getE (elsOf x27) (i:Int)=.str w)(hwl:w.length≤2^40)(hlen:(elsOf x27).length=2)(hst:PSt V g r)(hn:Nx V g0 g)(hb:HasTy TT 23 b)(hl:Lv g0.toks.length g 5 b)(hal:(elsOf b).length≤10)
 (K:∀b' g',elsOf b'=elsOf b++[ptD 4 w 0 p]→HasTy TT 23 b'→Lv g0.toks.length g' 5 b'→PSt V g' r→Nx V g0 g'→L128_9 x27 ((2:Nat):Int) ((i+1:Nat):Int) y4 (exD 7 [] [] 0 a b' p) g' Qf):
 L128_9 x27 ((2:Nat):Int) (i:Int) y4 (exD 7 [] [] 0 a b p) g Qf:=by
 refine w128_9 ?_
 rw[Br_lt hi]
 refine⟨by rw[hlen];exact inB hi,?_⟩
 rw[show strOf (fld (getE (elsOf x27) (i:Int)) 0)=w by rw[hw];rfl]
 refine⟨fit20 (by decide) (by show(elsOf b).length+1≤_;omega),?_⟩
 obtain⟨d2,g2,e1,e2,e3,hl2,hn2,hst2,_⟩:=papp (y:=ptD 4 w 0 p) hn hl hst
 refine⟨d2,g2,e1,?_⟩
 rw[wrap_nat (by omega)]
 exact K d2 g2 e2 (growP (m:=0) hb (by omega) (ptD_ty hwl) e3) hl2 hst2 hn2
theorem PSt.tok{m n:Nat}(h:PSt V g r):PSt V (gtok g m n) r:=h
theorem pchoice(hV:V.Ok){n:Nat}(I:ExP V n)(hst:PSt V g r){p:Int}(q:isK' 5 kIf r=true)
 (hQ:PFin V absEx 25 g ((gEx V.en n r.tail).bind λa r=>(need V.en 5 kThen r).bind λ_ r=>(gEx V.en n r).bind λb r=>(need V.en 5 kElse r).bind λ_ r=>(gEx V.en n r).bind λc r=>.ok (.mk 7 [] [] 0 [a,b,c] [con0 nTrue p,con0 nFalse p] p) r) Qf):
 EvF TT 128 [.ptr (some (V.p,0)),exD 0 [] [] 0 .nil .nil p] g Qf:=by
 have hQ0:PFin V absEx 25 g ((need V.en 5 kIf r).bind λ_ r=>(gEx V.en n r).bind λa r=>(need V.en 5 kThen r).bind λ_ r=>(gEx V.en n r).bind λb r=>(need V.en 5 kElse r).bind λ_ r=>(gEx V.en n r).bind λc r=>.ok (.mk 7 [] [] 0 [a,b,c] [con0 nTrue p,con0 nFalse p] p) r) Qf:=by
  rw[need,if_pos q]
  exact hQ
 refine w128 (exD_ty (by decide) (by decide) nil_exprs nil_pats) ?_
 refine choiceStep hV I (i:=0) (a:=.nil) (p:=p) (by decide) (w:=kIf) rfl (by decide) rfl hst.tok .tok nil_exprs (.inl rfl) (by decide) hQ0 λv1 r1 d1 a1 g1 h1 e1 t1 l1 s1 n1 hQ1=>?_
 refine choiceStep hV I (i:=1) (p:=p) (by decide) (w:=kThen) rfl (by decide) rfl s1 n1 t1 l1 (by rw[e1];simp[elsOf]) hQ1 λv2 r2 d2 a2 g2 h2 e2 t2 l2 s2 n2 hQ2=>?_
 refine choiceStep hV I (i:=2) (p:=p) (by decide) (w:=kElse) rfl (by decide) rfl s2 n2 t2 l2 (by rw[e2,e1];simp[elsOf]) hQ2 λv3 r3 d3 a3 g3 h3 e3 t3 l3 s3 n3 hQ3=>?_
 refine w128_3 ?_
 rw[Br_ge]
 refine choicePat hV (i:=0) (a:=a3) (b:=.nil) (p:=p) (by decide) (w:=nTrue) rfl (by decide) rfl s3.tok (n3.trans .tok) nil_pats (.inl rfl) (by decide) λb4 g4 e4 t4 l4 s4 n4=>?_
 refine choicePat hV (i:=1) (a:=a3) (p:=p) (by decide) (w:=nFalse) rfl (by decide) rfl s4 n4 t4 l4 (by rw[e4];simp[elsOf]) λb5 g5 e5 t5 l5 s5 n5=>?_
 refine w128_9 ?_
 rw[Br_ge]
 refine hQ3 (exD 7 [] [] 0 a3 b5 p) _ ?_ (exD_ty (by decide) (by decide) t3 t5) s5 n5
 rw[exD_abs,absExA_map,absPtA_map,e5,e4,e3,e2,e1]
 simp[elsOf,h1,h2,h3,ptD_abs,con0]
theorem pcases(hV:V.Ok){n:Nat}(I:ExP V n)(hst:PSt V g r){p:Int}(q:isK' 5 kCase r=true)
 (hQ:PFin V absEx 25 g ((gEx V.en n r.tail).bind λa r=>(need V.en 5 kOf r).bind λ_ r=>gBr V.en n (.mk 7 [] [] 0 [a] [] p) r) Qf):
 EvF TT 129 [.ptr (some (V.p,0)),exD 0 [] [] 0 .nil .nil p] g Qf:=by
 refine w129 (exD_ty (by decide) (by decide) nil_exprs nil_pats) ?_
 have hlen:=hst.len hV
 have l0:=tail_lt' (by decide) q
 obtain⟨m,g2,h1,h2,h3,h4,h5⟩:=padv hV hst (isK_ne (by decide) q)
 refine⟨m,h1,h2,?_⟩
 rw[h3]
 refine I.ex h4 (hQ.call h5 (λ_ _ h=>h) λv r' d g' he hd ht hst' hn' hn'' hQ'=>⟨d,ht,rfl,fit20 (by decide) (by show 0+1≤_;decide),?_⟩)
 obtain⟨d2,g3,e1,e2,e3,hl2,hn2,hst2,_⟩:=papp (x:=.nil) (m:=7) hn' (.inl rfl) hst'
 have l1:=(exLen n).ex he
 refine⟨d2,g3,e1,pskip hV hst2 (by decide) (by decide) hQ' hn2 (λ_ _ h=>h) λg4 q4 hst4 hn4 hn4' hQ4=>⟨trivial,?_⟩⟩
 have l2:=tail_lt' (by decide) q4
 refine I.br (y3:=exD 7 [] [] 0 d2 .nil p) hst4 hn4 (exD_ty (by decide) (by decide) (grow (m:=0) nil_exprs (by decide) ht e3) nil_pats) (hl2.nx hn4') (.inl rfl) ?_ (by show 0+_≤_;omega) ?_
 ·show(elsOf d2).length+_≤_
  rw[e2]
  show 1+_≤_
  omega
 ·rw[exD_abs,absExA_map,e2,absPtA_nil]
  simp only[elsOf,List.nil_append,List.map_cons,List.map_nil,hd]
  exact hQ4
theorem pletTail(hV:V.Ok){n:Nat}(H:∀m,m<n→ExP V m){k p:Int}{s u:Str}(hs:s.length≤2^40)(hu:u.length≤2^40)(hst:PSt V g r)(hn:Nx V g0 g){F:Dat→Dat}(hF:∀d,F d=exD k s u 0 d .nil p)
 (hQ:PFin V absEx 25 g0 (gLet V.en n (.mk k s u 0 [] [] p) r) Qf):
 EvF TT 122 [Dat.ptr (some (V.p,0)),Dat.int IntKind.i64 6,Dat.str [61]] g (KQ Qf λv g'=>RetT v []∧EvF TT 79 [Dat.ptr (some (V.p,0))] g' (KQ Qf λv g'=>∃x_2,HasTy TT 25 x_2∧v=Val.d x_2∧Fits ((elsOf .nil).length+[x_2].length) 104∧∃r g'_1,gapp 7 .nil [x_2] (gtok g' 7 1)=some (r,g'_1)∧EvF TT 122 [Dat.ptr (some (V.p,0)),Dat.int IntKind.i64 5,Dat.str [105,110]] g'_1 (KQ Qf λv g'=>RetT v []∧EvF TT 79 [Dat.ptr (some (V.p,0))] g' (KQ Qf λv g'=>∃x_3,HasTy TT 25 x_3∧v=Val.d x_3∧Fits ((elsOf r).length+[x_3].length) 104∧∃r_1 g'_2,gapp 7 r [x_3] (gtok g' 7 1)=some (r_1,g'_2)∧Qf (Out.val (Val.d (F r_1))) g'_2)))):=by
 obtain⟨n,rfl⟩:∃n',n=n'+1:=by
  cases n with
  |zero=>simp[gLet,PFin] at hQ
  |succ n=>exact⟨n,rfl⟩
 have I:=H n (by omega)
 rw[gLet] at hQ
 refine pskip hV hst (by decide) (by decide) hQ hn (λ_ _ h=>h) λg1 q1 hst1 hn1 _ hQ1=>⟨trivial,?_⟩
 refine I.ex hst1 (hQ1.call hn1 (λ_ _ h=>h) λv r' d g' he hd ht hst' hn' hn'' hQ'=>⟨d,ht,rfl,fit20 (by decide) (by show 0+1≤_;decide),?_⟩)
 obtain⟨d2,g2,e1,e2,e3,hl2,hn2,hst2,_⟩:=papp (x:=.nil) (m:=7) hn' (.inl rfl) hst'
 refine⟨d2,g2,e1,pskip hV hst2 (by decide) (by decide) hQ' hn2 (λ_ _ h=>h) λg3 q3 hst3 hn3 hn3' hQ3=>⟨trivial,?_⟩⟩
 have t2:=grow (m:=0) nil_exprs (by decide) ht e3
 refine I.ex hst3 (hQ3.call hn3 (λ_ _ h=>h) λv4 r4 d4 g4 he4 hd4 ht4 hst4 hn4 hn4' hQ4=>⟨d4,ht4,rfl,fit20 (by decide) (by rw[e2];simp[elsOf]),?_⟩)
 obtain⟨d5,g5,f1,f2,f3,hl5,hn5,hst5,_⟩:=papp hn4 ((hl2.nx hn3').nx hn4') hst4
 refine⟨d5,g5,f1,?_⟩
 rw[hF]
 refine hQ4 _ _ ?_ (exD_ty hs hu (grow (m:=0) t2 (by rw[e2];simp[elsOf]) ht4 f3) nil_pats) hst5 hn5
 rw[exD_abs,absExA_map,f2,e2,absPtA_nil]
 simp[elsOf,exAdd,hd,hd4]
theorem plet(hV:V.Ok){n:Nat}(H:∀m,m<n→ExP V m)(hst:PSt V g r){p:Int}(q:isK' 5 kLet r=true)
 (hQ:PFin V absEx 25 g (if isK' 5 kRec r.tail then(word1 V.en 1 r.tail.tail).bind λx r=>(word1 V.en 1 r).bind λy r=>gLet V.en n (.mk 6 x y 0 [] [] p) r
  else(word1 V.en 1 r.tail).bind λx r=>gLet V.en n (.mk 5 x [] 0 [] [] p) r) Qf):
 EvF TT 127 [.ptr (some (V.p,0)),exD 0 [] [] 0 .nil .nil p] g Qf:=by
 refine w127 (exD_ty (by decide) (by decide) nil_exprs nil_pats) ?_
 obtain⟨m,g2,h1,h2,h3,h4,h5⟩:=padv hV hst (isK_ne (by decide) q)
 refine⟨m,h1,h2,?_⟩
 rw[h3]
 refine pkey hV h4 (by decide) ⟨_,rfl,?_⟩
 have hx:=txK_len (h4.goodAll hV)
 cases q2:isK' 5 kRec r.tail with
 |true=>
  rw[if_pos q2] at hQ
  refine Br_of q2 ?_
  obtain⟨m3,g3,k1,k2,k3,k4,k5⟩:=padv hV h4 (isK_ne (by decide) q2)
  refine⟨m3,k1,k2,?_⟩
  rw[k3]
  refine ptake hV k4 (by decide) hQ (h5.trans k5) (λ_ _ h=>h) λg4 q4 hst4 hn4 _ hQ4=>⟨_,hd_ty hV k4,rfl,?_⟩
  refine ptake hV hst4 (by decide) hQ4 hn4 (λ_ _ h=>h) λg5 q5 hst5 hn5 _ hQ5=>⟨_,hd_ty hV hst4,rfl,?_⟩
  exact pletTail hV H (F:=λd=>exD 6 (txK r.tail.tail) (txK r.tail.tail.tail) 0 d .nil p) (txK_len (k4.goodAll hV)) (txK_len (hst4.goodAll hV)) hst5 hn5 (λd=>rfl) hQ5
 |false=>
  rw[if_neg (by rw[q2];simp)] at hQ
  refine Br_no q2 (ptake hV h4 (by decide) hQ h5 (λ_ _ h=>h) λg4 q4 hst4 hn4 _ hQ4=>⟨_,hd_ty hV h4,rfl,?_⟩)
  exact pletTail hV H (F:=λd=>exD 5 (txK r.tail) [] 0 d .nil p) hx (by decide) hst4 hn4 (λd=>rfl) hQ4
theorem pback{x:Dat}(ht:HasTy TT 25 x)(h:Qf (.val (.d x)) g):Qf (Out.val (Val.d (Dat.agg [Dat.int IntKind.i64 (intOf (fld x 0)),Dat.str (strOf (fld x 1)),Dat.str (strOf (fld x 2)),Dat.int IntKind.i64 (intOf (fld x 3)),fld x 4,fld x 5,Dat.int IntKind.i64 (intOf (fld x 6))]))) g:=by
 obtain⟨k,s,u,m,a,b,p,rfl,hs,hu,ha,hb⟩:=ex_inv ht
 exact h
theorem pex_ex(hV:V.Ok){n:Nat}(I:ExP V n)(H:∀m,m<n→ExP V m){g:Glob}{r:List Pk}{Qf:OGP}(hst:PSt V g r)(hQ:PFin V absEx 25 g (gEx V.en (n+1) r) Qf):EvF TT 79 [.ptr (some (V.p,0))] g Qf:=by
 rw[gEx] at hQ
 have hback:∀{res:Res Ex'},PFin V absEx 25 g res Qf→PFin V absEx 25 g res ((KQ Qf λv g'=>∃x,HasTy TT 25 x∧v=Val.d x∧Qf (Out.val (Val.d (Dat.agg [Dat.int IntKind.i64 (intOf (fld x 0)),Dat.str (strOf (fld x 1)),Dat.str (strOf (fld x 2)),Dat.int IntKind.i64 (intOf (fld x 3)),fld x 4,fld x 5,Dat.int IntKind.i64 (intOf (fld x 6))]))) g')):=λhQ=>hQ.imp .refl (λ_ _ h=>h) λd g' ht hq=>⟨d,ht,rfl,pback ht hq⟩
 refine w79 (ppeek hV hst ⟨_,hd_ty hV hst,rfl,pkey hV hst (by decide) ⟨_,rfl,?_⟩⟩)
 cases q:isK' 5 kFun r with
 |true=>
  rw[if_pos q] at hQ
  refine Br_of q ?_
  obtain⟨m,g2,h1,h2,h3,h4,h5⟩:=padv hV hst (isK_ne (by decide) q)
  refine⟨m,h1,h2,?_⟩
  rw[h3]
  refine ptake hV h4 (by decide) hQ h5 (λ_ _ h=>h) λg4 q4 hst4 hn4 _ hQ4=>⟨_,hd_ty hV h4,rfl,?_⟩
  refine pskip hV hst4 (by decide) (by decide) hQ4 hn4 (λ_ _ h=>h) λg5 q5 hst5 hn5 _ hQ5=>⟨trivial,?_⟩
  refine I.ex hst5 (hQ5.call hn5 (λ_ _ h=>h) λv r' d g' he hd ht hst' hn' hn'' hQ'=>⟨d,ht,rfl,?_⟩)
  refine hQ' (exD 3 (txK r.tail) [] 0 (.sl 7 [d]) .nil (plK V.en r)) _ ?_ (exD_ty (txK_len (h4.goodAll hV)) (by decide) (one_exprs ht) nil_pats) hst' hn'
  rw[exD_abs,absPtA_nil]
  simp[absExA,absExL,hd]
 |false=>
 rw[if_neg (by rw[q];simp)] at hQ
 refine Br_no q (pkey hV hst (by decide) ⟨_,rfl,?_⟩)
 cases q2:isK' 5 kLet r with
 |true=>
  rw[if_pos q2] at hQ
  refine Br_of q2 ?_
  exact plet hV H hst q2 (hback hQ)
 |false=>
 rw[if_neg (by rw[q2];simp)] at hQ
 refine Br_no q2 (pkey hV hst (by decide) ⟨_,rfl,?_⟩)
 cases q3:isK' 5 kIf r with
 |true=>
  rw[if_pos q3] at hQ
  exact Br_of q3 (pchoice hV I hst q3 (hback hQ))
 |false=>
 rw[if_neg (by rw[q3];simp)] at hQ
 refine Br_no q3 (pkey hV hst (by decide) ⟨_,rfl,?_⟩)
 cases q4:isK' 5 kCase r with
 |true=>
  rw[if_pos q4] at hQ
  exact Br_of q4 (pcases hV I hst q4 (hback hQ))
 |false=>
 rw[if_neg (by rw[q4];simp)] at hQ
 refine Br_no q4 (I.lev (l:=0) (by decide) hst (hQ.call .refl (λ_ _ h=>h) λv r' d g' he hd ht hst' hn' hn'' hQ'=>⟨d,ht,rfl,psign hV hst' (by decide) ⟨_,rfl,?_⟩⟩))
 cases q5:isK' 6 sSemi r' with
 |false=>
  rw[if_neg (by rw[q5];simp)] at hQ'
  exact Br_of (by show(!(isK' 6 sSemi r'))=true;rw[q5];rfl) (pback ht (hQ' _ _ hd ht hst' hn'))
 |true=>
  rw[if_pos q5] at hQ'
  refine Br_no (by show(!(isK' 6 sSemi r'))=false;rw[q5];rfl) ?_
  obtain⟨m6,g6,h1,h2,h3,h4,h5⟩:=padv hV hst' (isK_ne (by decide) q5)
  refine⟨m6,h1,h2,?_⟩
  rw[h3]
  refine I.ex h4 (hQ'.call (hn'.trans h5) (λ_ _ h=>h) λv7 r7 d7 g7 he7 hd7 ht7 hst7 hn7 hn7' hQ7=>⟨d7,ht7,rfl,?_⟩)
  refine hQ7 (exD 7 [] [] 0 (.sl 7 [d,d7]) (.sl 5 [ptD 4 nUnit 0 (intOf (fld d 6))]) (intOf (fld d 6))) _ ?_ (exD_ty (by decide) (by decide) (two_exprs ht ht7) (one_pats (ptD_ty (by decide)))) hst7 hn7
  rw[exD_abs,←absEx_at ht,hd]
  simp[absExA,absExL,absPtA,absPtL,hd,hd7,ptD_abs,con0]
theorem exP(hV:V.Ok)(n:Nat):ExP V n:=by
 induction n using Nat.strongRecOn with
 |ind n H=>
  match n,H with
  |0,_=>exact⟨λ_ h=>by simp[gEx,PFin] at h,λ_ _ h=>by simp[gLev,PFin] at h,λ_ _ _ h=>by simp[gOps,PFin] at h,λ_ _ _ h=>by simp[gOps,PFin] at h,λ_ h=>by simp[gApp,PFin] at h,
   λ_ _ _ _ _ h=>by simp[gConArgs,PFin] at h,λ_ _ _ h=>by simp[gAppArgs,PFin] at h,λ_ h=>by simp[gAtom,PFin] at h,λ_ _ _ _ _ _ _ h=>by simp[gBr,PFin] at h⟩
  |n+1,H=>
   have I:=H n (by omega)
   have H':∀m,m<n→ExP V m:=λm hm=>H m (by omega)
   exact⟨pex_ex hV I H',pex_lev hV I H',pex_ops1 hV I,pex_ops2 hV I,pex_app hV I,pex_con hV I,pex_args hV I,pex_atom hV I,pex_br hV I⟩
end Go.Proofs.YtmlghadphdpbjaaGreatDoor.Pa
namespace Go.Proofs.YtmlghadphdpbjaaGreatDoor.Pa
open Go Go.Proofs.YtmlghadphdpbjaaGreatDoor.Am
variable{V:Env}{g g0 g1:Glob}{r:List Pk}{Qf Qi:Out→Glob→Prop}{α β γ:Type}{ab:Dat→α}{t:TypeId}
theorem bind_assoc{a:Res α}{f:α→List Pk→Res β}{h:β→List Pk→Res γ}:(a.bind f).bind h=a.bind λx r=>(f x r).bind h:=by cases a<;>rfl
theorem ptake'(hV:V.Ok)(h:PSt V g r){k:Int}(hk:k≠0)(q:(kdK r==k)=true)(K:∀g',PSt V g' r.tail→Nx V g g'→Qi (.val (.d (hdD V r))) g'):EvF TT 123 [.ptr (some (V.p,0)),.int .i64 k] g Qi:=by
 refine w123 (ppeek hV h ⟨_,hd_ty hV h,rfl,pwant hV h (λ_=>⟨trivial,?_⟩) (λq'=>?_)⟩)
 ·obtain⟨n,g',h1,h2,h3,h4,h5⟩:=padv hV h (ne_nil hk q)
  refine⟨n,h1,h2,?_⟩
  rw[h3]
  exact K g' h4 h5
 ·have q':(kdK r==k)=false:=q'
  rw[q] at q'
  cases q'
def dcD(s:Str)(a b:Dat)(p:Int):Dat:=.agg [.str s,a,b,.int .i64 p]
def cnD(s:Str)(a:Dat):Dat:=.agg [.str s,a]
theorem nil_strs:HasTy TT 47 .nil:=.nil _ (by kernel_rfl)
theorem nil_cons:HasTy TT 48 .nil:=.nil _ (by kernel_rfl)
theorem nil_decls:HasTy TT 42 .nil:=.nil _ (by kernel_rfl)
theorem cn_els{x:Dat}(h:HasTy TT 48 x):∀y∈elsOf x,HasTy TT 52 y:=(h.els undCons).2
theorem st_els{x:Dat}(h:HasTy TT 47 x):∀y∈elsOf x,HasTy TT 9 y:=(h.els undStrs).2
theorem dc_els{x:Dat}(h:HasTy TT 42 x):∀y∈elsOf x,HasTy TT 50 y:=(h.els undDecls).2
theorem pparams(hV:V.Ok){s:Str}{p:Int}{y2:Dat}:∀(r:List Pk) {g:Glob} {ps:Dat},PSt V g r→Nx V g0 g→HasTy TT 47 ps→Lv g0.toks.length g 1 ps→(elsOf ps).length+r.length≤5000→
 (∀g' ps',PSt V g' (gParams r).2→Nx V g0 g'→HasTy TT 47 ps'→elsOf ps'=elsOf ps++(gParams r).1.map Dat.str→
  EvF TT 122 [Dat.ptr (some (V.p,0)),Dat.int IntKind.i64 6,Dat.str [61]] g' (KQ Qf λv g'=>RetT v []∧L78_7 V.p (dcD s ps' .nil p) y2 g' Qf))→
 L78_4 V.p (dcD s ps .nil p) y2 g Qf:=by
 intro r
 induction r with
 |nil=>
  intro g ps hst hn hp hl hlen K
  exact w78_4 (ppeek hV hst ⟨_,hd_ty hV hst,rfl,Br_no rfl (K g ps hst hn hp (by simp[gParams]))⟩)
 |cons t r ih=>
  intro g ps hst hn hp hl hlen K
  refine w78_4 (ppeek hV hst ⟨_,hd_ty hV hst,rfl,?_⟩)
  rw[gParams] at K
  cases q:(t.1.1==3) with
  |false=>
   rw[if_neg (by rw[q];simp)] at K
   exact Br_no q (K g ps hst hn hp (by simp))
  |true=>
   rw[if_pos q] at K
   refine Br_of q (ptake' hV hst (by decide) q λg' hst' hn'=>⟨_,hd_ty hV hst,rfl,fit20 (by decide) (by show(elsOf ps).length+1≤_;omega),?_⟩)
   obtain⟨d2,g2,e1,e2,⟨k2,e3⟩,hl2,hn2,hst2,_⟩:=papp (y:=.str t.1.2.1) (hn.trans hn') (hl.nx hn') hst'
   have hs:t.1.2.1.length≤2^40:=(hst.goodAll hV t (by simp)).str
   simp only[List.length_cons] at hlen
   refine⟨d2,g2,e1,ih hst2 hn2 ?_ hl2 ?_ λg3 ps3 h1 h2 h3 h4=>K g3 ps3 h1 h2 h3 ?_⟩
   ·rw[e3]
    exact ty_gsl undStrs zSt bSt (by decide) (by rw[List.length_append,List.length_singleton];omega) (all_snoc (st_els hp) (ty_str hs))
   ·rw[e2,List.length_append,List.length_singleton]
    omega
   ·rw[h4,e2]
    simp
theorem absCn_eq{s:Str}{a:Dat}:absCn (cnD s a)=⟨s,absTyA a⟩:=rfl
theorem absDc_eq{s:Str}{a b:Dat}{p:Int}:absDc (dcD s a b p)=⟨s,(elsOf a).map strOf,(elsOf b).map absCn,p⟩:=rfl
theorem pcons(hV:V.Ok){s:Str}{p:Int}{ps y2:Dat}(hs:s.length≤2^40)(hps:HasTy TT 47 ps):∀(n:Nat) {g:Glob} {r:List Pk} {cs:Dat},PSt V g r→Nx V g0 g→HasTy TT 48 cs→Lv g0.toks.length g 2 cs→(elsOf cs).length+r.length≤5000→
 PFin V absDc 50 g0 ((gCons V.en n ((elsOf cs).map absCn) r).bind λcs r4=>(need V.en 6 sSemi r4).bind λ_ r5=>.ok ⟨s,(elsOf ps).map strOf,cs,p⟩ r5) Qf→L78_7 V.p (dcD s ps cs p) y2 g Qf
 |0,g,r,cs,_,_,_,_,_,hQ=>by simp[gCons,Res.bind,PFin] at hQ
 |n+1,g,r,cs,hst,hn,hc,hl,hlen,hQ=>by
  rw[gCons,bind_assoc] at hQ
  refine w78_7 (ptake hV hst (by decide) hQ hn (λ_ _ h=>h) λg1 q1 hst1 hn1 hn1' hQ1=>⟨_,hd_ty hV hst,rfl,?_⟩)
  have l1:=tail_lt (by decide) q1
  have hx:=txK_len (hst.goodAll hV)
  rw[bind_assoc] at hQ1
  have fields:∀(m:Nat) {g:Glob} {r':List Pk} {fs:Dat},r'.length<r.length→PSt V g r'→Nx V g0 g→HasTy TT 26 fs→Lv g0.toks.length g 4 fs→Lv g0.toks.length g 2 cs→(elsOf fs).length+r'.length≤5000→
   PFin V absDc 50 g0 ((gFields V.en m (absTyA fs) r').bind λa r2=>(if isK' 6 sBar r2 then gCons V.en n ((elsOf cs).map absCn++[⟨txK r,a⟩]) r2.tail else .ok ((elsOf cs).map absCn++[⟨txK r,a⟩]) r2).bind λcs r4=>(need V.en 6 sSemi r4).bind λ_ r5=>.ok ⟨s,(elsOf ps).map strOf,cs,p⟩ r5) Qf→
   L78_8 V.p (cnD (txK r) fs) (dcD s ps cs p) y2 g Qf:=by
   intro m
   induction m with
   |zero=>intro g r' fs _ _ _ _ _ _ _ hQ;simp[gFields,Res.bind,PFin] at hQ
   |succ m ih=>
    intro g r' fs hr' hst hn hf hl4 hl2 hlen4 hQ
    rw[gFields] at hQ
    refine w78_8 (ptyatoms hV hst ⟨_,rfl,?_⟩)
    cases q:tyNext r' with
    |true=>
     rw[if_pos q,bind_assoc] at hQ
     refine Br_of rfl ((tyP hV m).tyatom hst (hQ.call hn (λ_ _ h=>h) λv r3 d g3 he hd ht hst3 hn3 hn3' hQ3=>⟨d,ht,rfl,fit20 (by decide) (by show(elsOf fs).length+1≤_;omega),?_⟩))
     have l3:=(gTy_len (en:=V.en) m).2.2.2 _ _ _ he
     obtain⟨d2,g4,e1,e2,⟨k2,e3⟩,hl5,hn4,hst4,hL⟩:=papp hn3 (hl4.nx hn3') hst3
     refine⟨d2,g4,e1,ih (by omega) hst4 hn4 ?_ hl5 (hL 2 cs (by decide) (hl2.nx hn3')) ?_ ?_⟩
     ·rw[e3]
      exact snoc_types (ty_els hf) ht (by omega)
     ·rw[e2,List.length_append,List.length_singleton]
      omega
     ·rw[absTyA_map,e2,List.map_append,List.map_cons,List.map_nil,hd,←absTyA_map]
      exact hQ3
    |false=>
     rw[if_neg (by rw[q];simp)] at hQ
     have hQ:PFin V absDc 50 g0 ((if isK' 6 sBar r' then gCons V.en n ((elsOf cs).map absCn++[⟨txK r,absTyA fs⟩]) r'.tail else .ok ((elsOf cs).map absCn++[⟨txK r,absTyA fs⟩]) r').bind λcs r4=>(need V.en 6 sSemi r4).bind λ_ r5=>.ok ⟨s,(elsOf ps).map strOf,cs,p⟩ r5) Qf:=hQ
     obtain⟨d2,g4,e1,e2,⟨k2,e3⟩,hl5,hn4,hst4,hL⟩:=papp (y:=cnD (txK r) fs) hn hl2 hst
     have ht2:HasTy TT 48 d2:=by
      rw[e3]
      exact ty_gsl undCons zCn bCn (by decide) (by rw[List.length_append,List.length_singleton];omega) (all_snoc (cn_els hc) (ty_con hx hf))
     have hmap:(elsOf d2).map absCn=(elsOf cs).map absCn++[⟨txK r,absTyA fs⟩]:=by
      rw[e2,List.map_append,List.map_cons,List.map_nil,absCn_eq]
     refine Br_no rfl ⟨fit20 (by decide) (by show(elsOf cs).length+1≤_;omega),d2,g4,e1,psign hV hst4 (by decide) ⟨_,rfl,?_⟩⟩
     cases q2:isK' 6 sBar r' with
     |false=>
      rw[if_neg (by rw[q2];simp)] at hQ
      have hQ:PFin V absDc 50 g0 ((need V.en 6 sSemi r').bind λ_ r5=>.ok ⟨s,(elsOf ps).map strOf,(elsOf cs).map absCn++[⟨txK r,absTyA fs⟩],p⟩ r5) Qf:=hQ
      refine Br_of (by show(!(isK' 6 sBar r'))=true;rw[q2];rfl) (pskip hV hst4 (by decide) (by decide) hQ hn4 (λ_ _ h=>h) λg6 q6 hst6 hn6 hn6' hQ6=>⟨trivial,?_⟩)
      exact hQ6 (dcD s ps d2 p) _ (by rw[absDc_eq,hmap]) (ty_decl hs hps ht2) hst6 hn6
     |true=>
      rw[if_pos q2] at hQ
      have l4:=tail_lt' (by decide) q2
      refine Br_no (by show(!(isK' 6 sBar r'))=false;rw[q2];rfl) ?_
      obtain⟨m6,g6,h1,h2,h3,h4,h5⟩:=padv hV hst4 (isK_ne (by decide) q2)
      refine⟨m6,h1,h2,?_⟩
      rw[h3]
      refine pcons hV hs hps n h4 (hn4.trans h5) ht2 (hl5.nx h5) ?_ (by rw[hmap];exact hQ)
      rw[e2,List.length_append,List.length_singleton]
      omega
  exact fields n l1 hst1 hn1 nil_types (.inl rfl) (hl.nx hn1') (by show 0+_≤_;omega) (by simpa[absTyA] using hQ1)
theorem pdecl(hV:V.Ok){n:Nat}(hst:PSt V g r)(hQ:PFin V absDc 50 g (gDecl V.en n r) Qf):EvF TT 78 [.ptr (some (V.p,0))] g Qf:=by
 unfold gDecl at hQ
 refine w78 (ppeek hV hst ⟨_,hd_ty hV hst,rfl,?_⟩)
 refine pskip hV hst (by decide) (by decide) hQ .refl (λ_ _ h=>h) λg1 q1 hst1 hn1 _ hQ1=>⟨trivial,?_⟩
 refine ptake hV hst1 (by decide) hQ1 hn1 (λ_ _ h=>h) λg2 q2 hst2 hn2 _ hQ2=>⟨_,hd_ty hV hst1,rfl,?_⟩
 have hlen:=hst2.len hV
 refine pparams hV (s:=txK r.tail) (p:=plK V.en r) _ hst2 hn2 nil_strs (.inl rfl) (by show 0+_≤_;omega) λg3 ps h1 h2 h3 h4=>?_
 refine pskip hV h1 (by decide) (by decide) hQ2 h2 (λ_ _ h=>h) λg4 q4 hst4 hn4 _ hQ4=>⟨trivial,?_⟩
 have hlen4:=hst4.len hV
 refine pcons hV (txK_len (hst1.goodAll hV)) h3 n hst4 hn4 nil_cons (.inl rfl) (by show 0+_≤_;omega) ?_
 have:(elsOf ps).map strOf=(gParams r.tail.tail).1:=by
  rw[h4]
  simp only[elsOf,List.nil_append,List.map_map]
  exact(List.map_congr_left λx _=>rfl).trans (List.map_id _)
 rw[this]
 exact hQ4
end Go.Proofs.YtmlghadphdpbjaaGreatDoor.Pa
