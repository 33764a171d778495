/- The program's parser: types, patterns. The program's parser: expressions. The program's parser: expressions, all of them. -/
import Derived.Test.YtmlghadphdpbjaaGreatDoorRK
import Derived.Test.YtmlghadphdpbjaaGreatDoorRJ
set_option linter.all false
set_option autoImplicit false
set_option maxRecDepth 100000
namespace Go.Proofs.YtmlghadphdpbjaaGreatDoor.Pa
open Go Go.Proofs.YtmlghadphdpbjaaGreatDoor.Am
variable{V:Env}{g g0 g1:Glob}{r:List Pk}{Qf Qi:Out→Glob→Prop}{α β:Type}{ab:Dat→α}{t:TypeId}
theorem PFin.imp{res:Res α}(hQ:PFin V ab t g0 res Qf)(hn:Nx V g0 g)(hp:∀p g',Qf (.panic p) g'→Qi (.panic p) g')(K:∀d g',HasTy TT t d→Qf (.val (.d d)) g'→Qi (.val (.d d)) g'):PFin V ab t g res Qi:=by
 cases res with
 |ok v r=>exact λd g' h1 h2 h3 h4=>K d g' h2 (hQ d g' h1 h2 h3 (hn.trans h4))
 |bad p=>exact λg' h4=>hp _ _ (hQ g' (hn.trans h4))
 |oof=>exact hQ
def lowD(s:Str):Dat:=if s==kInt then .agg [.int .i64 1,.str [],.int .i64 0,.nil] else .agg [.int .i64 4,.str s,.int .i64 0,.nil]
theorem lowD_abs(s:Str):absTy (lowD s)=lowTy s:=by
 unfold lowD lowTy
 split<;>simp[absTy,absTyA]
theorem nil_types:HasTy TT 26 .nil:=.nil _ (by kernel_rfl)
theorem nil_pats:HasTy TT 23 .nil:=.nil _ (by kernel_rfl)
theorem nil_exprs:HasTy TT 22 .nil:=.nil _ (by kernel_rfl)
theorem lowD_ty{s:Str}(hs:s.length≤2^40):HasTy TT 28 (lowD s):=by
 unfold lowD
 split
 ·exact ty_type (by decide) nil_types
 ·exact ty_type hs nil_types
theorem ptyatom_low(hV:V.Ok)(h:PSt V g r)(q:(kdK r==1)=true)(K:∀g',PSt V g' r.tail→Nx V g g'→Qf (.val (.d (lowD (txK r)))) g'):EvF TT 125 [.ptr (some (V.p,0))] g Qf:=by
 refine w125 (ppeek hV h ⟨_,hd_ty hV h,rfl,Br_of q ?_⟩)
 obtain⟨n,g',h1,h2,h3,h4,h5⟩:=padv hV h (ne_nil (by decide) q)
 refine⟨n,h1,h2,?_⟩
 rw[h3]
 have hQ:=K g' h4 h5
 unfold lowD at hQ
 show Br (txK r==kInt) _ _
 cases q:(txK r==kInt) with
 |true=>rw[q] at hQ;exact hQ
 |false=>rw[q] at hQ;exact hQ
structure TyP(V:Env)(n:Nat):Prop where
 typ:∀{g:Glob} {r:List Pk} {Qf:OGP},PSt V g r→PFin V absTy 28 g (gTyp V.en n r) Qf→EvF TT 158 [.ptr (some (V.p,0))] g Qf
 tyapp:∀{g:Glob} {r:List Pk} {Qf:OGP},PSt V g r→PFin V absTy 28 g (gTyapp V.en n r) Qf→EvF TT 171 [.ptr (some (V.p,0))] g Qf
 args:∀{g0 g:Glob} {r:List Pk} {y4 y2:Dat} {Qf:OGP},PSt V g r→Nx V g0 g→HasTy TT 28 y4→Lv g0.toks.length g 4 (fld y4 3)→(elsOf (fld y4 3)).length+r.length≤5000→
  PFin V absTy 28 g0 (gTyArgs V.en n (absTy y4) r) Qf→L171_3 V.p true y4 y2 g Qf
 tyatom:∀{g:Glob} {r:List Pk} {Qf:OGP},PSt V g r→PFin V absTy 28 g (gTyatom V.en n r) Qf→EvF TT 125 [.ptr (some (V.p,0))] g Qf
theorem ty_els{x:Dat}(h:HasTy TT 26 x):∀y∈elsOf x,HasTy TT 28 y:=(h.els undTypes).2
theorem pt_els{x:Dat}(h:HasTy TT 23 x):∀y∈elsOf x,HasTy TT 94 y:=(h.els undPats).2
theorem ex_els{x:Dat}(h:HasTy TT 22 x):∀y∈elsOf x,HasTy TT 25 y:=(h.els undExprs).2
theorem all_snoc{P:Dat→Prop}{xs:List Dat}{y:Dat}(h:∀x∈xs,P x)(hy:P y):∀x∈xs++[y],P x:=λx hx=>by
 rcases List.mem_append.1 hx with hx|hx
 ·exact h x hx
 ·rw[List.mem_singleton.1 hx];exact hy
theorem snoc_types{k:Nat}{xs:List Dat}{y:Dat}(h:∀x∈xs,HasTy TT 28 x)(hy:HasTy TT 28 y)(hl:xs.length≤6000):HasTy TT 26 (.gsl k 4 (xs++[y])):=
 ty_gsl undTypes zTy bTy (by decide) (by rw[List.length_append,List.length_singleton];omega) (all_snoc h hy)
theorem snoc_pats{k:Nat}{xs:List Dat}{y:Dat}(h:∀x∈xs,HasTy TT 94 x)(hy:HasTy TT 94 y)(hl:xs.length≤6000):HasTy TT 23 (.gsl k 5 (xs++[y])):=
 ty_gsl undPats zPt bPt (by decide) (by rw[List.length_append,List.length_singleton];omega) (all_snoc h hy)
theorem snoc_exprs{k:Nat}{xs:List Dat}{y:Dat}(h:∀x∈xs,HasTy TT 25 x)(hy:HasTy TT 25 y)(hl:xs.length≤6000):HasTy TT 22 (.gsl k 7 (xs++[y])):=
 ty_gsl undExprs zEx bEx (by decide) (by rw[List.length_append,List.length_singleton];omega) (all_snoc h hy)
theorem two_types{x y:Dat}(hx:HasTy TT 28 x)(hy:HasTy TT 28 y):HasTy TT 26 (.sl 4 [x,y]):=
 ty_sl undTypes zTy bTy (by decide) (by simp) (by intro z hz;simp at hz;rcases hz with rfl|rfl<;>assumption)
theorem tyP(hV:V.Ok):∀n,TyP V n
 |0=>⟨λ_ h=>by simp[gTyp,PFin] at h,λ_ h=>by simp[gTyapp,PFin] at h,λ_ _ _ _ _ h=>by simp[gTyArgs,PFin] at h,λ_ h=>by simp[gTyatom,PFin] at h⟩
 |n+1=>by
  have I:=tyP hV n
  have J:=gTy_len (en:=V.en) n
  constructor
  ·intro g r Qf hst hQ
   rw[gTyp] at hQ
   refine w158 (I.tyapp hst (hQ.call .refl (λ_ _ h=>h) λv r' d g' he hd ht hst' hn' _ hQ'=>⟨d,ht,rfl,psign hV hst' (by decide) ⟨_,rfl,?_⟩⟩))
   cases q:isK' 6 sArrow r' with
   |false=>
    rw[if_neg (by rw[q];simp)] at hQ'
    refine Br_no q ?_
    obtain⟨k,s,m,a,rfl,hs,ha⟩:=type_ty ht
    exact hQ' _ _ hd ht hst' hn'
   |true=>
    rw[if_pos q] at hQ'
    refine Br_of q ?_
    obtain⟨m,g2,h1,h2,h3,h4,h5⟩:=padv hV hst' (isK_ne (by decide) q)
    refine⟨m,h1,h2,?_⟩
    rw[h3]
    refine I.typ h4 (hQ'.call (hn'.trans h5) (λ_ _ h=>h) λv2 r2 d2 g3 he2 hd2 ht2 hst2 hn2 _ hQ2=>⟨d2,ht2,rfl,?_⟩)
    exact hQ2 (.agg [.int .i64 3,.str [],.int .i64 0,.sl 4 [d,d2]]) _ (by simp only[absTy,absTyA,absTyL,hd,hd2]) (ty_type (by decide) (two_types ht ht2)) hst2 hn2
  ·intro g r Qf hst hQ
   rw[gTyapp] at hQ
   refine w171 (ppeek hV hst ⟨_,hd_ty hV hst,rfl,?_⟩)
   cases q:(kdK r==1) with
   |true=>
    rw[if_pos q] at hQ
    refine ptyatom_low hV hst q λg' hst' hn'=>⟨_,lowD_ty (txK_len (hst.goodAll hV)),rfl,?_⟩
    show L171_3 V.p (kdK r==1) _ _ g' Qf
    rw[q]
    have hlen:=hst'.len hV
    refine I.args hst' hn' (lowD_ty (txK_len (hst.goodAll hV))) (.inl ?_) ?_ (by rw[lowD_abs];exact hQ)
    ·unfold lowD;split<;>rfl
    ·have:elsOf (fld (lowD (txK r)) 3)=[]:=by unfold lowD;split<;>rfl
     rw[this,List.length_nil]
     omega
   |false=>
    rw[if_neg (by rw[q];simp)] at hQ
    refine I.tyatom hst (hQ.imp .refl (λ_ _ h=>h) λd g' ht hq=>⟨d,ht,rfl,?_⟩)
    show L171_3 V.p (kdK r==1) _ _ g' Qf
    rw[q]
    refine w171_3 (Br_no rfl ?_)
    obtain⟨k,s,m,a,rfl,hs,ha⟩:=type_ty ht
    exact hq
  ·intro g0 g r y4 y2 Qf hst hn hy hl hlen hQ
   rw[gTyArgs] at hQ
   obtain⟨k,s,m,a,rfl,hs,ha⟩:=type_ty hy
   refine w171_3 (Br_of rfl (ptyatoms hV hst ⟨_,rfl,?_⟩))
   have hl:Lv g0.toks.length g 4 a:=hl
   have hlen:(elsOf a).length+r.length≤5000:=hlen
   cases q:tyNext r with
   |false=>
    rw[if_neg (by rw[q];simp)] at hQ
    exact hQ _ _ rfl hy hst hn
   |true=>
    rw[if_pos q] at hQ
    refine pwant hV hst (λq2=>⟨trivial,?_⟩) (λq2=>?_)
    ·have q2:(k==4)=true:=q2
     rw[show tyKind (absTy (.agg [.int .i64 k,.str s,.int .i64 m,a]))=k from by simp[absTy,tyKind],if_pos q2] at hQ
     refine I.tyatom hst (hQ.call hn (λ_ _ h=>h) λv r' d g' he hd ht hst' hn' hn'' hQ'=>⟨d,ht,rfl,?_,?_⟩)
     ·exact fit20 (by decide) (by show(elsOf a).length+1≤_;omega)
     ·obtain⟨d2,g2,e1,e2,⟨k2,e3⟩,hl2,hn2,hst2,_⟩:=papp hn' (hl.nx hn'') hst'
      have l1:=J.2.2.2 _ _ _ he
      have ht2:HasTy TT 26 d2:=by
       rw[e3]
       exact snoc_types (ty_els ha) ht (by omega)
      refine⟨d2,g2,e1,I.args hst2 hn2 (ty_type hs ht2) hl2 ?_ ?_⟩
      ·show(elsOf d2).length+_≤_
       rw[e2,List.length_append,List.length_singleton]
       omega
      ·have habs:absTy (Dat.agg [Dat.int IntKind.i64 k,Dat.str s,Dat.int IntKind.i64 m,d2])=tyAdd (absTy (.agg [.int .i64 k,.str s,.int .i64 m,a])) v:=by simp[absTy,absTyA_map,e2,tyAdd,hd]
       rw[←habs] at hQ'
       exact hQ'
    ·have q2:(k==4)=false:=q2
     rw[show tyKind (absTy (.agg [.int .i64 k,.str s,.int .i64 m,a]))=k from by simp[absTy,tyKind],if_neg (by rw[q2];simp)] at hQ
     exact hQ g hn
  ·intro g r Qf hst hQ
   rw[gTyatom] at hQ
   cases q:(kdK r==1) with
   |true=>
    rw[if_pos q] at hQ
    exact ptyatom_low hV hst q λg' hst' hn'=>hQ _ _ (lowD_abs _) (lowD_ty (txK_len (hst.goodAll hV))) hst' hn'
   |false=>
    rw[if_neg (by rw[q];simp)] at hQ
    refine w125 (ppeek hV hst ⟨_,hd_ty hV hst,rfl,Br_no q ?_⟩)
    cases q2:(kdK r==3) with
    |true=>
     rw[if_pos q2] at hQ
     refine Br_of q2 ?_
     obtain⟨m,g2,h1,h2,h3,h4,h5⟩:=padv hV hst (ne_nil (by decide) q2)
     refine⟨m,h1,h2,?_⟩
     rw[h3]
     exact hQ (.agg [.int .i64 2,.str (txK r),.int .i64 0,.nil]) _ (by simp[absTy,absTyA]) (ty_type (txK_len (hst.goodAll hV)) nil_types) h4 h5
    |false=>
     rw[if_neg (by rw[q2];simp)] at hQ
     refine Br_no q2 (pskip hV hst (by decide) (by decide) hQ .refl (λ_ _ h=>h) λg' q3 hst' hn' _ hQ'=>⟨trivial,?_⟩)
     refine I.typ hst' (hQ'.call hn' (λ_ _ h=>h) λv r2 d g2 he hd ht hst2 hn2 _ hQ2=>⟨d,ht,rfl,?_⟩)
     refine pskip hV hst2 (by decide) (by decide) hQ2 hn2 (λ_ _ h=>h) λg3 q4 hst3 hn3 _ hQ3=>⟨trivial,?_⟩
     obtain⟨k,s,m,a,rfl,hs,ha⟩:=type_ty ht
     exact hQ3 _ _ hd ht hst3 hn3
structure PtP(V:Env)(n:Nat):Prop where
 pat:∀{g:Glob} {r:List Pk} {Qf:OGP},PSt V g r→PFin V absPt 94 g (gPat V.en n r) Qf→EvF TT 159 [.ptr (some (V.p,0))] g Qf
 args:∀{g0 g:Glob} {r:List Pk} {y4 y2:Dat} {Qf:OGP},PSt V g r→Nx V g0 g→HasTy TT 94 y4→Lv g0.toks.length g 5 (fld y4 3)→(elsOf (fld y4 3)).length+r.length≤5000→
  PFin V absPt 94 g0 (gPatArgs V.en n (absPt y4) r) Qf→L159_3 V.p true y4 y2 g Qf
 patom:∀{g:Glob} {r:List Pk} {Qf:OGP},PSt V g r→PFin V absPt 94 g (gPatom V.en n r) Qf→EvF TT 172 [.ptr (some (V.p,0))] g Qf
def ptD(k:Int)(s:Str)(n p:Int):Dat:=.agg [.int .i64 k,.str s,.int .i64 n,.nil,.int .i64 p]
theorem ptD_abs{k:Int}{s:Str}{n p:Int}:absPt (ptD k s n p)=.mk k s n [] p:=by simp[ptD,absPt,absPtA]
theorem ptD_ty{k:Int}{s:Str}{n p:Int}(hs:s.length≤2^40):HasTy TT 94 (ptD k s n p):=ty_pat hs nil_pats
theorem isAny_k(h:isK' 6 sAny r=true):(kdK r==6)=true:=by
 unfold isK' at h
 rw[Bool.and_eq_true] at h
 exact h.1
theorem ppatom_up(hV:V.Ok)(h:PSt V g r)(q:(kdK r==2)=true)(K:∀g',PSt V g' r.tail→Nx V g g'→Qf (.val (.d (ptD 4 (txK r) (nmK r) (plK V.en r)))) g'):EvF TT 172 [.ptr (some (V.p,0))] g Qf:=by
 have q0:kdK r=2:=by simpa using q
 refine w172 (ppeek hV h ⟨_,hd_ty hV h,rfl,Br_no (by show(kdK r==1)=false;rw[q0];rfl) (psign hV h (by decide) ⟨_,rfl,Br_no (by simp[isK',q0]) (Br_no (by show(kdK r==4)=false;rw[q0];rfl) (Br_of q ?_))⟩)⟩)
 obtain⟨n,g',h1,h2,h3,h4,h5⟩:=padv hV h (ne_nil (by decide) q)
 refine⟨n,h1,h2,?_⟩
 rw[h3]
 exact K g' h4 h5
theorem ptP(hV:V.Ok):∀n,PtP V n
 |0=>⟨λ_ h=>by simp[gPat,PFin] at h,λ_ _ _ _ _ h=>by simp[gPatArgs,PFin] at h,λ_ h=>by simp[gPatom,PFin] at h⟩
 |n+1=>by
  have I:=ptP hV n
  have J:=gPt_len (en:=V.en) n
  constructor
  ·intro g r Qf hst hQ
   rw[gPat] at hQ
   refine w159 (ppeek hV hst ⟨_,hd_ty hV hst,rfl,?_⟩)
   cases q:(kdK r==2) with
   |true=>
    rw[if_pos q] at hQ
    refine ppatom_up hV hst q λg' hst' hn'=>⟨_,ptD_ty (txK_len (hst.goodAll hV)),rfl,?_⟩
    show L159_3 V.p (kdK r==2) _ _ g' Qf
    rw[q]
    have hlen:=hst'.len hV
    refine I.args hst' hn' (ptD_ty (txK_len (hst.goodAll hV))) (.inl rfl) ?_ (by rw[ptD_abs];exact hQ)
    show 0+_≤_
    omega
   |false=>
    rw[if_neg (by rw[q];simp)] at hQ
    refine I.patom hst (hQ.imp .refl (λ_ _ h=>h) λd g' ht hq=>⟨d,ht,rfl,?_⟩)
    show L159_3 V.p (kdK r==2) _ _ g' Qf
    rw[q]
    refine w159_3 (Br_no rfl ?_)
    obtain⟨k,s,m,a,p,rfl,hs,ha⟩:=pat_ty ht
    exact hq
  ·intro g0 g r y4 y2 Qf hst hn hy hl hlen hQ
   rw[gPatArgs] at hQ
   obtain⟨k,s,m,a,p,rfl,hs,ha⟩:=pat_ty hy
   have hl:Lv g0.toks.length g 5 a:=hl
   have hlen:(elsOf a).length+r.length≤5000:=hlen
   have body:(atNext r||isK' 6 sAny r)=true→EvF TT 172 [Dat.ptr (some (V.p,0))] g (KQ Qf λv g'=>∃x,HasTy TT 94 x∧v=Val.d x∧Fits ((elsOf (fld (Dat.agg [.int .i64 k,.str s,.int .i64 m,a,.int .i64 p]) 3)).length+[x].length) 64∧∃r g'_1,gapp 5 (fld (Dat.agg [.int .i64 k,.str s,.int .i64 m,a,.int .i64 p]) 3) [x] (gtok g' 5 1)=some (r,g'_1)∧L159_3 V.p true (Dat.agg [Dat.int IntKind.i64 k,Dat.str s,Dat.int IntKind.i64 m,r,Dat.int IntKind.i64 p]) y2 g'_1 Qf):=by
    intro q
    rw[if_pos q] at hQ
    refine I.patom hst (hQ.call hn (λ_ _ h=>h) λv r' d g' he hd ht hst' hn' hn'' hQ'=>⟨d,ht,rfl,?_,?_⟩)
    ·exact fit20 (by decide) (by show(elsOf a).length+1≤_;omega)
    ·obtain⟨d2,g2,e1,e2,⟨k2,e3⟩,hl2,hn2,hst2,_⟩:=papp hn' (hl.nx hn'') hst'
     have l1:=J.2.2 _ _ _ he
     have ht2:HasTy TT 23 d2:=by
      rw[e3]
      exact snoc_pats (pt_els ha) ht (by omega)
     refine⟨d2,g2,e1,I.args hst2 hn2 (ty_pat hs ht2) hl2 ?_ ?_⟩
     ·show(elsOf d2).length+_≤_
      rw[e2,List.length_append,List.length_singleton]
      omega
     ·have habs:absPt (Dat.agg [Dat.int IntKind.i64 k,Dat.str s,Dat.int IntKind.i64 m,d2,Dat.int IntKind.i64 p])=ptAdd (absPt (.agg [.int .i64 k,.str s,.int .i64 m,a,.int .i64 p])) v:=by simp[absPt,absPtA_map,e2,ptAdd,hd]
      rw[←habs] at hQ'
      exact hQ'
   refine w159_3 (Br_of rfl (patoms hV hst ⟨_,rfl,?_⟩))
   cases q:atNext r with
   |true=>exact body (by rw[q];rfl)
   |false=>
    refine psign hV hst (by decide) ⟨_,rfl,?_⟩
    show Br (isK' 6 sAny r) _ _
    cases q2:isK' 6 sAny r with
    |true=>exact body (by rw[q2];simp)
    |false=>
     rw[if_neg (by rw[q,q2];simp)] at hQ
     exact hQ _ _ rfl hy hst hn
  ·intro g r Qf hst hQ
   rw[gPatom] at hQ
   have adv:∀{k:Int} {s:Str},s.length≤2^40→r≠[]→PFin V absPt 94 g (.ok (.mk k s (nmK r) [] (plK V.en r)) r.tail) Qf→∃n,GOk TT 3 g V.p 1 (Dat.int IntKind.i64 n)∧GPut g V.p 1 1∧Qf (.val (.d (ptD k s (nmK r) (plK V.en r)))) (gput g V.p 1 (Dat.int IntKind.i64 (IntKind.i64.wrap (n+1)))):=λhs hr hQ=>by
    obtain⟨m,g2,h1,h2,h3,h4,h5⟩:=padv hV hst hr
    refine⟨m,h1,h2,?_⟩
    rw[h3]
    exact hQ _ _ ptD_abs (ptD_ty hs) h4 h5
   have hx:=txK_len (hst.goodAll hV)
   refine w172 (ppeek hV hst ⟨_,hd_ty hV hst,rfl,?_⟩)
   cases q:(kdK r==1) with
   |true=>
    rw[if_pos q] at hQ
    exact Br_of q (adv hx (ne_nil (by decide) q) hQ)
   |false=>
   rw[if_neg (by rw[q];simp)] at hQ
   refine Br_no q (psign hV hst (by decide) ⟨_,rfl,?_⟩)
   show Br (isK' 6 sAny r) _ _
   cases q2:isK' 6 sAny r with
   |true=>
    rw[if_pos q2] at hQ
    exact adv (by decide) (isK_ne (by decide) q2) hQ
   |false=>
   rw[if_neg (by rw[q2];simp)] at hQ
   refine Br_no rfl ?_
   cases q3:(kdK r==4) with
   |true=>
    rw[if_pos q3] at hQ
    exact Br_of q3 (adv hx (ne_nil (by decide) q3) hQ)
   |false=>
   rw[if_neg (by rw[q3];simp)] at hQ
   refine Br_no q3 ?_
   cases q4:(kdK r==2) with
   |true=>
    rw[if_pos q4] at hQ
    exact Br_of q4 (adv hx (ne_nil (by decide) q4) hQ)
   |false=>
   rw[if_neg (by rw[q4];simp)] at hQ
   refine Br_no q4 (pskip hV hst (by decide) (by decide) hQ .refl (λ_ _ h=>h) λg' q5 hst' hn' _ hQ'=>⟨trivial,?_⟩)
   refine I.pat hst' (hQ'.call hn' (λ_ _ h=>h) λv r2 d g2 he hd ht hst2 hn2 _ hQ2=>⟨d,ht,rfl,?_⟩)
   refine pskip hV hst2 (by decide) (by decide) hQ2 hn2 (λ_ _ h=>h) λg3 q6 hst3 hn3 _ hQ3=>⟨trivial,?_⟩
   obtain⟨k,s,m,a,p,rfl,hs,ha⟩:=pat_ty ht
   exact hQ3 _ _ hd ht hst3 hn3
end Go.Proofs.YtmlghadphdpbjaaGreatDoor.Pa
namespace Go.Proofs.YtmlghadphdpbjaaGreatDoor.Pa
open Go Go.Proofs.YtmlghadphdpbjaaGreatDoor.Am
variable{V:Env}{g g0 g1:Glob}{r:List Pk}{Qf Qi:Out→Glob→Prop}{α β:Type}{ab:Dat→α}{t:TypeId}
def exD(k:Int)(s u:Str)(n:Int)(a b:Dat)(p:Int):Dat:=.agg [.int .i64 k,.str s,.str u,.int .i64 n,a,b,.int .i64 p]
theorem exD_abs{k:Int}{s u:Str}{n:Int}{a b:Dat}{p:Int}:absEx (exD k s u n a b p)=.mk k s u n (absExA a) (absPtA b) p:=by simp[exD,absEx]
theorem exD_ty{k:Int}{s u:Str}{n:Int}{a b:Dat}{p:Int}(hs:s.length≤2^40)(hu:u.length≤2^40)(ha:HasTy TT 22 a)(hb:HasTy TT 23 b):HasTy TT 25 (exD k s u n a b p):=ty_expr hs hu ha hb
theorem ex_inv{x:Dat}(h:HasTy TT 25 x):∃k s u n a b p,x=exD k s u n a b p∧s.length≤2^40∧u.length≤2^40∧HasTy TT 22 a∧HasTy TT 23 b:=expr_ty h
theorem absExA_nil:absExA .nil=[]:=by simp[absExA]
theorem absPtA_nil:absPtA .nil=[]:=by simp[absPtA]
theorem one_exprs{x:Dat}(hx:HasTy TT 25 x):HasTy TT 22 (.sl 7 [x]):=
 ty_sl undExprs zEx bEx (by decide) (by simp) (by intro z hz;simp at hz;rw[hz];exact hx)
theorem two_exprs{x y:Dat}(hx:HasTy TT 25 x)(hy:HasTy TT 25 y):HasTy TT 22 (.sl 7 [x,y]):=
 ty_sl undExprs zEx bEx (by decide) (by simp) (by intro z hz;simp at hz;rcases hz with rfl|rfl<;>assumption)
theorem gone_exprs{k:Nat}{x:Dat}(hx:HasTy TT 25 x):HasTy TT 22 (.gsl k 7 [x]):=
 ty_gsl undExprs zEx bEx (by decide) (by simp) (by intro z hz;simp at hz;rw[hz];exact hx)
theorem gtwo_exprs{k:Nat}{x y:Dat}(hx:HasTy TT 25 x)(hy:HasTy TT 25 y):HasTy TT 22 (.gsl k 7 [x,y]):=
 ty_gsl undExprs zEx bEx (by decide) (by simp) (by intro z hz;simp at hz;rcases hz with rfl|rfl<;>assumption)
theorem one_pats{x:Dat}(hx:HasTy TT 94 x):HasTy TT 23 (.sl 5 [x]):=
 ty_sl undPats zPt bPt (by decide) (by simp) (by intro z hz;simp at hz;rw[hz];exact hx)
theorem absEx_at{x:Dat}(h:HasTy TT 25 x):exAt (absEx x)=intOf (fld x 6):=by
 obtain⟨k,s,u,n,a,b,p,rfl,_⟩:=ex_inv h
 rw[exD_abs]
 rfl
structure ExP(V:Env)(n:Nat):Prop where
 ex:∀{g:Glob} {r:List Pk} {Qf:OGP},PSt V g r→PFin V absEx 25 g (gEx V.en n r) Qf→EvF TT 79 [.ptr (some (V.p,0))] g Qf
 lev:∀{l:Nat} {g:Glob} {r:List Pk} {Qf:OGP},l≤3→PSt V g r→PFin V absEx 25 g (gLev V.en n l r) Qf→EvF TT 130 [.ptr (some (V.p,0)),.int .i64 (l:Int)] g Qf
 ops1:∀{g0 g:Glob} {r:List Pk} {y3 y2:Dat} {Qf:OGP},PSt V g r→Nx V g0 g→HasTy TT 25 y3→PFin V absEx 25 g0 (gOps V.en n 1 (absEx y3) r) Qf→L175_2 V.p true y3 y2 g Qf
 ops2:∀{g0 g:Glob} {r:List Pk} {y3 y2:Dat} {Qf:OGP},PSt V g r→Nx V g0 g→HasTy TT 25 y3→PFin V absEx 25 g0 (gOps V.en n 2 (absEx y3) r) Qf→L176_2 V.p true y3 y2 g Qf
 app:∀{g:Glob} {r:List Pk} {Qf:OGP},PSt V g r→PFin V absEx 25 g (gApp V.en n r) Qf→EvF TT 177 [.ptr (some (V.p,0))] g Qf
 con:∀{g0 g:Glob} {r:List Pk} {y4 y2:Dat} {Qf:OGP},PSt V g r→Nx V g0 g→HasTy TT 25 y4→Lv g0.toks.length g 7 (fld y4 4)→(elsOf (fld y4 4)).length+r.length≤5000→
  PFin V absEx 25 g0 (gConArgs V.en n (absEx y4) r) Qf→L177_4 V.p y4 y2 g Qf
 args:∀{g0 g:Glob} {r:List Pk} {y5 y2:Dat} {Qf:OGP},PSt V g r→Nx V g0 g→HasTy TT 25 y5→PFin V absEx 25 g0 (gAppArgs V.en n (absEx y5) r) Qf→L177_11 V.p y5 y2 g Qf
 atom:∀{g:Glob} {r:List Pk} {Qf:OGP},PSt V g r→PFin V absEx 25 g (gAtom V.en n r) Qf→EvF TT 191 [.ptr (some (V.p,0))] g Qf
 br:∀{g0 g:Glob} {r:List Pk} {y4 y3:Dat} {Qf:OGP},PSt V g r→Nx V g0 g→HasTy TT 25 y3→Lv g0.toks.length g 7 (fld y3 4)→Lv g0.toks.length g 5 (fld y3 5)→(elsOf (fld y3 4)).length+r.length≤5000→(elsOf (fld y3 5)).length+r.length≤5000→
  PFin V absEx 25 g0 (gBr V.en n (absEx y3) r) Qf→L129_5 V.p y4 y3 g Qf
def primD(s:Str)(x y:Dat):Dat:=exD 9 s [] 0 (.sl 7 [x,y]) .nil (intOf (fld x 6))
theorem primD_abs{s:Str}{x y:Dat}(hx:HasTy TT 25 x):absEx (primD s x y)=.mk 9 s [] 0 [absEx x,absEx y] [] (exAt (absEx x)):=by
 rw[absEx_at hx,primD,exD_abs,absPtA_nil]
 simp[absExA,absExL]
theorem sgns_ty(l:Nat):HasTy TT 47 (.sl 1 ((sgns l).map .str)):=by
 have h:∀l:Nat,(sgns l).length≤3∧∀s∈sgns l,s.length≤2^40
  |0=>by decide
  |1=>by decide
  |_+2=>by show([[42],[47],[37]]:List Str).length≤3∧∀s∈([[42],[47],[37]]:List Str),s.length≤2^40;decide
 refine ty_sl undStrs zSt bSt (by decide) (by have:=(h l).1;rw[List.length_map];omega) λx hx=>?_
 obtain⟨s,hs,rfl⟩:=List.mem_map.1 hx
 exact ty_str ((h l).2 s hs)
theorem pprim(hV:V.Ok){n l:Nat}{x1:Dat}(I:∀{g:Glob} {r:List Pk} {Qf:OGP},PSt V g r→PFin V absEx 25 g (gLev V.en n (l+1) r) Qf→EvF TT 130 [.ptr (some (V.p,0)),.int .i64 ((l+1:Nat):Int)] g Qf)
 (hst:PSt V g r) (hx:HasTy TT 25 x1) (no:sgNext l r=false→Qi (.val (.tuple [.d x1,.d (.bool false)])) g)
 (yes:sgNext l r=true→∀g1,PSt V g1 r.tail→Nx V g g1→PFin V absEx 25 g1 (gLev V.en n (l+1) r.tail) (λout g'=>Outc (λx=>Qi (.panic x) g') (λv=>∃x,HasTy TT 25 x∧v=.d x∧Qi (.val (.tuple [.d (primD (txK r) x1 x),.d (.bool true)])) g') out)):
 EvF TT 190 [.ptr (some (V.p,0)),x1,.int .i64 ((l+1:Nat):Int),.sl 1 ((sgns l).map .str)] g Qi:=by
 refine w190 hx (sgns_ty l) (ppeek hV hst ⟨_,hd_ty hV hst,rfl,?_⟩)
 obtain⟨k,s,u,m,a,b,p,rfl,hs,hu,ha,hb⟩:=ex_inv hx
 cases q:(kdK r==6) with
 |false=>
  refine Br_of (by show(kdK r !=6)=true;simp[bne,q]) (no ?_)
  simp[sgNext,q]
 |true=>
  refine Br_no (by show(kdK r !=6)=false;simp[bne,q]) (containsStr_ok (sgns_ty l) (txK_len (hst.goodAll hV)) ⟨_,rfl,?_⟩)
  have e:((elsOf (.sl 1 ((sgns l).map .str))).any λy=>txK r==strOf y)=sgNext l r:=by
   simp only[elsOf,List.any_map,sgNext,q,Bool.true_and]
   congr 1
   funext s
   show(txK r==s)=(s==txK r)
   rw[Bool.eq_iff_iff]
   simp only[beq_iff_eq]
   exact eq_comm
  show Br (!((elsOf (.sl 1 ((sgns l).map .str))).any λy=>txK r==strOf y)) _ _
  rw[e]
  cases q2:sgNext l r with
  |false=>exact no q2
  |true=>
   obtain⟨n,g',h1,h2,h3,h4,h5⟩:=padv hV hst (ne_nil (by decide) q)
   refine⟨n,h1,h2,?_⟩
   rw[h3]
   exact I h4 (yes q2 g' h4 h5)
theorem rulesTy:HasTy TT 165 (.sl 1 [.clo 174 [],.clo 175 [],.clo 176 [],.clo 177 []]):=
 ty_sl (te:=164) (b:=8) (by kernel_rfl) (by kernel_rfl) (by kernel_rfl) (by decide) (by simp) (by
  intro z hz
  simp at hz
  rcases hz with rfl|rfl|rfl|rfl<;>exact tyClo (by kernel_rfl))
def ruleF:Nat→FuncId
 |0=>174
 |1=>175
 |2=>176
 |_=>177
theorem plevel{l:Nat}(hl:l≤3){res:Res Ex'}(hQ:PFin V absEx 25 g res Qf)(h:∀{Qi:OGP},PFin V absEx 25 g res Qi→EvF TT (ruleF l) [.ptr (some (V.p,0))] g Qi):EvF TT 130 [.ptr (some (V.p,0)),.int .i64 (l:Int)] g Qf:=by
 have key:=h (Qi:=(KQ Qf λv g'=>∃x,HasTy TT 25 x∧v=Val.d x∧Qf (Out.val (Val.d (Dat.agg [Dat.int IntKind.i64 (intOf (fld x 0)),Dat.str (strOf (fld x 1)),Dat.str (strOf (fld x 2)),Dat.int IntKind.i64 (intOf (fld x 3)),fld x 4,fld x 5,Dat.int IntKind.i64 (intOf (fld x 6))]))) g')) (hQ.imp .refl (λ_ _ h=>h) λd g' ht hq=>⟨d,ht,rfl,by
  obtain⟨k,s,u,m,a,b,p,rfl,hs,hu,ha,hb⟩:=ex_inv ht
  exact hq⟩)
 refine w130 (w160 ⟨_,rulesTy,rfl,inB (by show l<4;omega),?_⟩)
 match l,hl,key with
 |0,_,key=>exact⟨_,_,rfl,key⟩
 |1,_,key=>exact⟨_,_,rfl,key⟩
 |2,_,key=>exact⟨_,_,rfl,key⟩
 |3,_,key=>exact⟨_,_,rfl,key⟩
theorem patom_of(hV:V.Ok)(h:PSt V g r){i:Int}{k:Int}(hk:(i=1∧k=1)∨(i=4∧k=2)∨(i=2∧k=8))(q:(kdK r==i)=true)(K:∀g',PSt V g' r.tail→Nx V g g'→Qf (.val (.d (exD k (txK r) [] (nmK r) .nil .nil (plK V.en r)))) g'):EvF TT 191 [.ptr (some (V.p,0))] g Qf:=by
 have q0:kdK r=i:=by simpa using q
 have adv:∃n,GOk TT 3 g V.p 1 (Dat.int IntKind.i64 n)∧GPut g V.p 1 1∧Qf (.val (.d (exD k (txK r) [] (nmK r) .nil .nil (plK V.en r)))) (gput g V.p 1 (Dat.int IntKind.i64 (IntKind.i64.wrap (n+1)))):=by
  obtain⟨n,g',h1,h2,h3,h4,h5⟩:=padv hV h (ne_nil (by omega) q)
  refine⟨n,h1,h2,?_⟩
  rw[h3]
  exact K g' h4 h5
 refine w191 (ppeek hV h ⟨_,hd_ty hV h,rfl,?_⟩)
 rcases hk with ⟨rfl,rfl⟩|⟨rfl,rfl⟩|⟨rfl,rfl⟩
 ·exact Br_of q adv
 ·exact Br_no (by show(kdK r==1)=false;rw[q0];rfl) (Br_of q adv)
 ·exact Br_no (by show(kdK r==1)=false;rw[q0];rfl) (Br_no (by show(kdK r==4)=false;rw[q0];rfl) (Br_of q adv))
end Go.Proofs.YtmlghadphdpbjaaGreatDoor.Pa
namespace Go.Proofs.YtmlghadphdpbjaaGreatDoor.Pa
open Go Go.Proofs.YtmlghadphdpbjaaGreatDoor.Am
variable{V:Env}{g g0 g1:Glob}{r:List Pk}{Qf Qi:Out→Glob→Prop}{α β:Type}{ab:Dat→α}{t:TypeId}
theorem pex_atom(hV:V.Ok){n:Nat}(I:ExP V n){g:Glob}{r:List Pk}{Qf:OGP}(hst:PSt V g r)(hQ:PFin V absEx 25 g (gAtom V.en (n+1) r) Qf):EvF TT 191 [.ptr (some (V.p,0))] g Qf:=by
 rw[gAtom] at hQ
 have hx:=txK_len (hst.goodAll hV)
 have fin:∀{k:Int},PFin V absEx 25 g (.ok (.mk k (txK r) [] (nmK r) [] [] (plK V.en r)) r.tail) Qf→∀g',PSt V g' r.tail→Nx V g g'→Qf (.val (.d (exD k (txK r) [] (nmK r) .nil .nil (plK V.en r)))) g':=λhQ g' h1 h2=>
  hQ _ _ (by rw[exD_abs,absExA_nil,absPtA_nil]) (exD_ty hx (by decide) nil_exprs nil_pats) h1 h2
 cases q:(kdK r==1) with
 |true=>
  rw[if_pos q] at hQ
  exact patom_of hV hst (.inl ⟨rfl,rfl⟩) q (fin hQ)
 |false=>
 rw[if_neg (by rw[q];simp)] at hQ
 cases q2:(kdK r==4) with
 |true=>
  rw[if_pos q2] at hQ
  exact patom_of hV hst (.inr (.inl ⟨rfl,rfl⟩)) q2 (fin hQ)
 |false=>
 rw[if_neg (by rw[q2];simp)] at hQ
 cases q3:(kdK r==2) with
 |true=>
  rw[if_pos q3] at hQ
  exact patom_of hV hst (.inr (.inr ⟨rfl,rfl⟩)) q3 (fin hQ)
 |false=>
 rw[if_neg (by rw[q3];simp)] at hQ
 refine w191 (ppeek hV hst ⟨_,hd_ty hV hst,rfl,Br_no q (Br_no q2 (Br_no q3 ?_))⟩)
 refine pskip hV hst (by decide) (by decide) hQ .refl (λ_ _ h=>h) λg' q5 hst' hn' _ hQ'=>⟨trivial,?_⟩
 refine I.ex hst' (hQ'.call hn' (λ_ _ h=>h) λv r2 d g2 he hd ht hst2 hn2 _ hQ2=>⟨d,ht,rfl,?_⟩)
 refine pskip hV hst2 (by decide) (by decide) hQ2 hn2 (λ_ _ h=>h) λg3 q6 hst3 hn3 _ hQ3=>⟨trivial,?_⟩
 obtain⟨k,s,u,m,a,b,p,rfl,hs,hu,ha,hb⟩:=ex_inv ht
 exact hQ3 _ _ hd ht hst3 hn3
theorem pex_con(hV:V.Ok){n:Nat}(I:ExP V n){g0 g:Glob}{r:List Pk}{y4 y2:Dat}{Qf:OGP}(hst:PSt V g r)(hn:Nx V g0 g)(hy:HasTy TT 25 y4)(hl:Lv g0.toks.length g 7 (fld y4 4))(hlen:(elsOf (fld y4 4)).length+r.length≤5000)
 (hQ:PFin V absEx 25 g0 (gConArgs V.en (n+1) (absEx y4) r) Qf):L177_4 V.p y4 y2 g Qf:=by
 rw[gConArgs] at hQ
 obtain⟨k,s,u,m,a,b,p,rfl,hs,hu,ha,hb⟩:=ex_inv hy
 have hl:Lv g0.toks.length g 7 a:=hl
 have hlen:(elsOf a).length+r.length≤5000:=hlen
 refine w177_4 (patoms hV hst ⟨_,rfl,?_⟩)
 cases q:atNext r with
 |false=>
  rw[if_neg (by rw[q];simp)] at hQ
  exact hQ _ _ rfl hy hst hn
 |true=>
  rw[if_pos q] at hQ
  refine I.atom hst (hQ.call hn (λ_ _ h=>h) λv r' d g' he hd ht hst' hn' hn'' hQ'=>⟨d,ht,rfl,?_,?_⟩)
  ·exact fit20 (by decide) (by show(elsOf a).length+1≤_;omega)
  ·obtain⟨d2,g2,e1,e2,⟨k2,e3⟩,hl2,hn2,hst2,_⟩:=papp hn' (hl.nx hn'') hst'
   have l1:=(exLen n).atom he
   have ht2:HasTy TT 22 d2:=by
    rw[e3]
    exact snoc_exprs (ex_els ha) ht (by omega)
   refine⟨d2,g2,e1,I.con hst2 hn2 (ty_expr hs hu ht2 hb) hl2 ?_ ?_⟩
   ·show(elsOf d2).length+_≤_
    rw[e2,List.length_append,List.length_singleton]
    omega
   ·have habs:absEx (Dat.agg [Dat.int IntKind.i64 k,Dat.str s,Dat.str u,Dat.int IntKind.i64 m,d2,b,Dat.int IntKind.i64 p])=exAdd (absEx (exD k s u m a b p)) v:=by simp[exD,absEx,absExA_map,e2,exAdd,hd]
    rw[←habs] at hQ'
    exact hQ'
theorem pex_args(hV:V.Ok){n:Nat}(I:ExP V n){g0 g:Glob}{r:List Pk}{y5 y2:Dat}{Qf:OGP}(hst:PSt V g r)(hn:Nx V g0 g)(hy:HasTy TT 25 y5)
 (hQ:PFin V absEx 25 g0 (gAppArgs V.en (n+1) (absEx y5) r) Qf):L177_11 V.p y5 y2 g Qf:=by
 rw[gAppArgs] at hQ
 refine w177_11 (patoms hV hst ⟨_,rfl,?_⟩)
 cases q:atNext r with
 |false=>
  rw[if_neg (by rw[q];simp)] at hQ
  obtain⟨k,s,u,m,a,b,p,rfl,hs,hu,ha,hb⟩:=ex_inv hy
  exact hQ _ _ rfl hy hst hn
 |true=>
  rw[if_pos q] at hQ
  refine I.atom hst (hQ.call hn (λ_ _ h=>h) λv r' d g' he hd ht hst' hn' hn'' hQ'=>⟨d,ht,rfl,?_⟩)
  refine I.args (r:=r') (y5:=exD 4 [] [] 0 (.gsl g'.toks.length 7 [y5,d]) .nil (intOf (fld y5 6))) ?_ (hn'.trans .tok) (exD_ty (by decide) (by decide) (gtwo_exprs hy ht) nil_pats) ?_
  ·exact hst'
  ·rw[exD_abs,←absEx_at hy,absPtA_nil]
   have:absExA (.gsl g'.toks.length 7 [y5,d])=[absEx y5,v]:=by simp[absExA,absExL,hd]
   rw[this]
   exact hQ'
theorem pex_app(hV:V.Ok){n:Nat}(I:ExP V n){g:Glob}{r:List Pk}{Qf:OGP}(hst:PSt V g r)(hQ:PFin V absEx 25 g (gApp V.en (n+1) r) Qf):EvF TT 177 [.ptr (some (V.p,0))] g Qf:=by
 rw[gApp] at hQ
 refine w177 (ppeek hV hst ⟨_,hd_ty hV hst,rfl,?_⟩)
 cases q:(kdK r==2) with
 |true=>
  rw[if_pos q] at hQ
  refine Br_of q (patom_of hV hst (.inr (.inr ⟨rfl,rfl⟩)) q λg' hst' hn'=>⟨_,exD_ty (txK_len (hst.goodAll hV)) (by decide) nil_exprs nil_pats,rfl,?_⟩)
  have hlen:=hst'.len hV
  refine I.con hst' hn' (exD_ty (txK_len (hst.goodAll hV)) (by decide) nil_exprs nil_pats) (.inl rfl) (by show 0+_≤_;omega) ?_
  rw[exD_abs,absExA_nil,absPtA_nil]
  have q0:kdK r=2:=by simpa using q
  cases n with
  |zero=>simp[gAtom,Res.bind,PFin] at hQ
  |succ n=>
   rw[gAtom,if_neg (by rw[q0];decide),if_neg (by rw[q0];decide),if_pos q] at hQ
   exact hQ
 |false=>
  rw[if_neg (by rw[q];simp)] at hQ
  refine Br_no q (pkey hV hst (by decide) ⟨_,rfl,?_⟩)
  cases q2:isK' 5 kPrint r with
  |true=>
   rw[if_pos q2] at hQ
   refine Br_of q2 ?_
   obtain⟨m,g2,h1,h2,h3,h4,h5⟩:=padv hV hst (isK_ne (by decide) q2)
   refine⟨m,h1,h2,?_⟩
   rw[h3]
   refine I.atom h4 (hQ.call h5 (λ_ _ h=>h) λv r' d g' he hd ht hst' hn' hn'' hQ'=>⟨d,ht,rfl,?_⟩)
   refine hQ' (exD 10 [] [] 0 (.gsl g'.toks.length 7 [d]) .nil (plK V.en r)) _ ?_ (exD_ty (by decide) (by decide) (gone_exprs ht) nil_pats) hst' (hn'.trans .tok)
   rw[exD_abs,absPtA_nil]
   simp[absExA,absExL,hd]
  |false=>
   rw[if_neg (by rw[q2];simp)] at hQ
   refine Br_no q2 (I.atom hst (hQ.call .refl (λ_ _ h=>h) λv r' d g' he hd ht hst' hn' hn'' hQ'=>⟨d,ht,rfl,I.args hst' hn' ht (by rw[hd];exact hQ')⟩))
theorem pex_ops1(hV:V.Ok){n:Nat}(I:ExP V n){g0 g:Glob}{r:List Pk}{y3 y2:Dat}{Qf:OGP}(hst:PSt V g r)(hn:Nx V g0 g)(hy:HasTy TT 25 y3)
 (hQ:PFin V absEx 25 g0 (gOps V.en (n+1) 1 (absEx y3) r) Qf):L175_2 V.p true y3 y2 g Qf:=by
 rw[gOps] at hQ
 refine w175_2 (Br_of rfl (pprim (l:=1) hV (I.lev (l:=2) (by decide)) hst hy (λq=>?_) (λq g1 hst1 hn1=>?_)))
 ·rw[if_neg (by rw[q];simp)] at hQ
  refine⟨y3,hy,false,⟨rfl,rfl,trivial⟩,w175_2 (Br_no rfl ?_)⟩
  obtain⟨k,s,u,m,a,b,p,rfl,hs,hu,ha,hb⟩:=ex_inv hy
  exact hQ _ _ rfl hy hst hn
 ·rw[if_pos q] at hQ
  refine hQ.call (hn.trans hn1) (λ_ _ h=>h) λv r' d g' he hd ht hst' hn' hn'' hQ'=>⟨d,ht,rfl,primD (txK r) y3 d,exD_ty (txK_len (hst.goodAll hV)) (by decide) (two_exprs hy ht) nil_pats,true,⟨rfl,rfl,trivial⟩,?_⟩
  refine I.ops1 hst' hn' (exD_ty (txK_len (hst.goodAll hV)) (by decide) (two_exprs hy ht) nil_pats) ?_
  rw[if_neg (by decide)] at hQ'
  rw[primD_abs hy,hd]
  exact hQ'
theorem pex_ops2(hV:V.Ok){n:Nat}(I:ExP V n){g0 g:Glob}{r:List Pk}{y3 y2:Dat}{Qf:OGP}(hst:PSt V g r)(hn:Nx V g0 g)(hy:HasTy TT 25 y3)
 (hQ:PFin V absEx 25 g0 (gOps V.en (n+1) 2 (absEx y3) r) Qf):L176_2 V.p true y3 y2 g Qf:=by
 rw[gOps] at hQ
 refine w176_2 (Br_of rfl (pprim (l:=2) hV (I.lev (l:=3) (by decide)) hst hy (λq=>?_) (λq g1 hst1 hn1=>?_)))
 ·rw[if_neg (by rw[q];simp)] at hQ
  refine⟨y3,hy,false,⟨rfl,rfl,trivial⟩,w176_2 (Br_no rfl ?_)⟩
  obtain⟨k,s,u,m,a,b,p,rfl,hs,hu,ha,hb⟩:=ex_inv hy
  exact hQ _ _ rfl hy hst hn
 ·rw[if_pos q] at hQ
  refine hQ.call (hn.trans hn1) (λ_ _ h=>h) λv r' d g' he hd ht hst' hn' hn'' hQ'=>⟨d,ht,rfl,primD (txK r) y3 d,exD_ty (txK_len (hst.goodAll hV)) (by decide) (two_exprs hy ht) nil_pats,true,⟨rfl,rfl,trivial⟩,?_⟩
  refine I.ops2 hst' hn' (exD_ty (txK_len (hst.goodAll hV)) (by decide) (two_exprs hy ht) nil_pats) ?_
  rw[if_neg (by decide)] at hQ'
  rw[primD_abs hy,hd]
  exact hQ'
theorem pex_lev(hV:V.Ok){n:Nat}(I:ExP V n)(H:∀m,m<n→ExP V m){l:Nat}{g:Glob}{r:List Pk}{Qf:OGP}(hl:l≤3)(hst:PSt V g r)(hQ:PFin V absEx 25 g (gLev V.en (n+1) l r) Qf):EvF TT 130 [.ptr (some (V.p,0)),.int .i64 (l:Int)] g Qf:=by
 refine plevel hl hQ λ{Qi} hQ=>?_
 rw[gLev] at hQ
 match l,hl,hQ with
 |3,_,hQ=>exact I.app hst hQ
 |0,_,hQ=>
  refine w174 (I.lev (l:=1) (by decide) hst (PFin.call (f:=λa r=>gOps V.en n 0 a r) hQ .refl (λ_ _ h=>h) λv r' d g' he hd ht hst' hn' hn'' hQ'=>⟨d,ht,rfl,?_⟩))
  match n,I,H,hQ' with
  |0,_,_,hQ'=>simp[gOps,PFin] at hQ'
  |m+1,_,H,hQ'=>
   rw[gOps] at hQ'
   refine pprim (l:=0) hV ((H m (by omega)).lev (l:=1) (by decide)) hst' ht (λq=>?_) (λq g1 hst1 hn1=>?_)
   ·rw[if_neg (by rw[q];simp)] at hQ'
    refine⟨d,ht,false,⟨rfl,rfl,trivial⟩,?_⟩
    obtain⟨k,s,u,m,a,b,p,rfl,hs,hu,ha,hb⟩:=ex_inv ht
    exact hQ' _ _ hd ht hst' hn'
   ·rw[if_pos q] at hQ'
    refine hQ'.call (hn'.trans hn1) (λ_ _ h=>h) λv2 r2 d2 g2 he2 hd2 ht2 hst2 hn2 hn3 hQ2=>⟨d2,ht2,rfl,primD (txK r') d d2,exD_ty (txK_len (hst'.goodAll hV)) (by decide) (two_exprs ht ht2) nil_pats,true,⟨rfl,rfl,trivial⟩,?_⟩
    rw[if_pos (by rfl)] at hQ2
    refine hQ2 (primD (txK r') d d2) _ ?_ (exD_ty (txK_len (hst'.goodAll hV)) (by decide) (two_exprs ht ht2) nil_pats) hst2 hn2
    rw[primD_abs ht,hd,hd2]
 |1,_,hQ=>
  exact w175 (I.lev (l:=2) (by decide) hst (PFin.call (f:=λa r=>gOps V.en n 1 a r) hQ .refl (λ_ _ h=>h) λv r' d g' he hd ht hst' hn' hn'' hQ'=>⟨d,ht,rfl,I.ops1 hst' hn' ht (by rw[hd];exact hQ')⟩))
 |2,_,hQ=>
  exact w176 (I.lev (l:=3) (by decide) hst (PFin.call (f:=λa r=>gOps V.en n 2 a r) hQ .refl (λ_ _ h=>h) λv r' d g' he hd ht hst' hn' hn'' hQ'=>⟨d,ht,rfl,I.ops2 hst' hn' ht (by rw[hd];exact hQ')⟩))
theorem pex_br(hV:V.Ok){n:Nat}(I:ExP V n){g0 g:Glob}{r:List Pk}{y4 y3:Dat}{Qf:OGP}(hst:PSt V g r)(hn:Nx V g0 g)(hy:HasTy TT 25 y3)(hl:Lv g0.toks.length g 7 (fld y3 4))(hl5:Lv g0.toks.length g 5 (fld y3 5))(hlen:(elsOf (fld y3 4)).length+r.length≤5000)(hlen5:(elsOf (fld y3 5)).length+r.length≤5000)
 (hQ:PFin V absEx 25 g0 (gBr V.en (n+1) (absEx y3) r) Qf):L129_5 V.p y4 y3 g Qf:=by
 rw[gBr] at hQ
 obtain⟨k,s,u,m,a,b,p,rfl,hs,hu,ha,hb⟩:=ex_inv hy
 have hl:Lv g0.toks.length g 7 a:=hl
 have hl5:Lv g0.toks.length g 5 b:=hl5
 have hlen:(elsOf a).length+r.length≤5000:=hlen
 have hlen5:(elsOf b).length+r.length≤5000:=hlen5
 refine w129_5 ((ptP hV n).pat hst (hQ.call hn (λ_ _ h=>h) λv r' d g' he hd ht hst' hn' hn'' hQ'=>⟨d,ht,rfl,fit20 (by decide) (by show(elsOf b).length+1≤_;omega),?_⟩))
 have l1:=(gPt_len n).1 _ _ _ he
 obtain⟨d2,g2,e1,e2,⟨k2,e3⟩,hl2,hn2,hst2,hL⟩:=papp hn' (hl5.nx hn'') hst'
 have hl7:=hL 7 a (by decide) (hl.nx hn'')
 refine⟨d2,g2,e1,pskip hV hst2 (by decide) (by decide) hQ' hn2 (λ_ _ h=>h) λg3 q3 hst3 hn3 hn3' hQ3=>⟨trivial,?_⟩⟩
 have l2:=tail_lt' (by decide) q3
 refine I.ex hst3 (hQ3.call hn3 (λ_ _ h=>h) λv4 r4 d4 g4 he4 hd4 ht4 hst4 hn4 hn4' hQ4=>⟨d4,ht4,rfl,fit20 (by decide) (by show(elsOf a).length+1≤_;omega),?_⟩)
 have l3:=(exLen n).ex he4
 obtain⟨d5,g5,f1,f2,⟨k5,f3⟩,hl6,hn5,hst5,hL5⟩:=papp hn4 ((hl7.nx hn3').nx hn4') hst4
 have hl8:=hL5 5 d2 (by decide) ((hl2.nx hn3').nx hn4')
 have ht2:HasTy TT 23 d2:=by
  rw[e3]
  exact snoc_pats (pt_els hb) ht (by omega)
 have ht5:HasTy TT 22 d5:=by
  rw[f3]
  exact snoc_exprs (ex_els ha) ht4 (by omega)
 have habs:absEx (exD k s u m d5 d2 p)=exAdd (exPat (absEx (exD k s u m a b p)) v) v4:=by simp[exD,absEx,absExA_map,absPtA_map,e2,f2,exAdd,exPat,hd,hd4]
 refine⟨d5,g5,f1,psign hV hst5 (by decide) ⟨_,rfl,?_⟩⟩
 cases q:isK' 6 sBar r4 with
 |false=>
  rw[if_neg (by rw[q];simp)] at hQ4
  refine Br_of (by show(!(isK' 6 sBar r4))=true;rw[q];rfl) (pskip hV hst5 (by decide) (by decide) hQ4 hn5 (λ_ _ h=>h) λg6 q6 hst6 hn6 hn6' hQ6=>⟨trivial,?_⟩)
  exact hQ6 _ _ habs (exD_ty hs hu ht5 ht2) hst6 hn6
 |true=>
  rw[if_pos q] at hQ4
  have l4:=tail_lt' (by decide) q
  refine Br_no (by show(!(isK' 6 sBar r4))=false;rw[q];rfl) ?_
  obtain⟨m6,g6,h1,h2,h3,h4,h5⟩:=padv hV hst5 (isK_ne (by decide) q)
  refine⟨m6,h1,h2,?_⟩
  rw[h3]
  refine I.br (y3:=exD k s u m d5 d2 p) h4 (hn5.trans h5) (exD_ty hs hu ht5 ht2) (hl6.nx h5) (hl8.nx h5) ?_ ?_ (by rw[habs];exact hQ4)
  ·show(elsOf d5).length+_≤_
   rw[f2,List.length_append,List.length_singleton]
   omega
  ·show(elsOf d2).length+_≤_
   rw[e2,List.length_append,List.length_singleton]
   omega
end Go.Proofs.YtmlghadphdpbjaaGreatDoor.Pa
