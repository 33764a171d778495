/- Scope: the program's look at all declared types. Scope: the program's look at expressions; its Check. Scope: the program's Check. -/
import Derived.Test.YtgmapdcdmomioaaGreatDoorUE
set_option linter.all false
set_option autoImplicit false
set_option maxRecDepth 100000
namespace Go.Proofs.YtgmapdcdmomioaaGreatDoor.Pa
open Go Go.Proofs.YtgmapdcdmomioaaGreatDoor.Am
theorem Kp.new{bx:List Nat}{b i:Nat}{g g1 g2:Glob}(h:Kp bx b g g1)(ho:OneBox i g1 g2)(hi:g.boxes.length≤i):Kp bx b g g2:=
 ⟨by rw[ho.len];exact h.len,λj hj hx=>by rw[ho.get (by omega)];exact h.box j hj hx,by rw[ho.toks];exact h.tlen,λj hj=>by rw[ho.toks];exact h.tok j hj⟩
theorem kp_gmnew(g:Glob)(b:Nat):Kp [] b g (gmnew g):=⟨by rw[gmnew_len];omega,λj hj _=>gmnew_old hj,Nat.le_refl _,λ_ _=>rfl⟩
theorem cB_one(st:List Str)(s:Str):(((cB (st++[s]) s:Nat):Int)==1)=!st.contains s:=by
 have h:cB (st++[s]) s=cB st s+1:=by simp[cB,List.count_append]
 rw[h,←cB_zero,Bool.eq_iff_iff]
 simp only[beq_iff_eq]
 omega
theorem map_one{g:Glob}{i:Nat}{st:List Str}(h:MapIs true g i (cntF (cB st)))(s:Str)(hc:st.length≤2^50):
 ∃n b,MLook g (some i) (.int .i64 0) (.str s) (.int .i64 n) b∧∃g',gmput g i (.str s) (.int .i64 (IntKind.i64.wrap (n+1)))=some g'∧OneBox i g g'∧MapIs true g' i (cntF (cB (st++[s])))∧
  ∃m b',MLook g' (some i) (.int .i64 0) (.str s) (.int .i64 m) b'∧(m==1)=!st.contains s:=by
 have hle:=cB_le st s
 obtain⟨h1,g',a,b,d⟩:=map_inc h s (by omega)
 rw[cB_app] at d
 have h2:=d.mlook (z:=.int .i64 0) (strKey s)
 rw[cntF_get] at h2
 exact⟨_,_,h1,g',a,b,d,_,_,h2,cB_one st s⟩
theorem ScBox.one2{g g':Glob}{p mb i:Nat}{D:Dat}(h:ScBox g p mb D)(hne:p≠i)(ho:OneBox i g g'):ScBox g' p mb D:=(ho.get hne).trans h
theorem free_strs'{X:Dat}{l:List Str}(h:HasTy TT 61 X)(e:elsOf X=l.map .str):∀s∈l,s.length≤2^40:=by
 obtain⟨l',e',s,_⟩:=strs_inv h
 rw[←mapStr_inj (e'.symm.trans e)]
 exact s
def EndD(b:Nat)(g:Glob)(Qf:OGP)(c:Int):Option Int→Prop
 |some p=>∀g',Kp [] b g g'→Qf (.panic (fltD c p)) g'
 |none=>∀g',Kp [] b g g'→Qf (.val (.tuple [])) g'
structure DS(p p2 p3 mb:Nat)(D:Dat)(g0 g:Glob)(st sc:List Str):Prop where
 kp:Kp [] g0.toks.length g0 g
 bx:ScBox g p mb D
 m2:MapIs true g p2 (cntF (cB st))
 m3:MapIs true g p3 (cntF (cB sc))
theorem absDc_at{D:Dat}{i:Nat}(h:i<(elsOf D).length):((elsOf D).drop i).map absDc=absDc (elsOf D)[i]::((elsOf D).drop (i+1)).map absDc:=by rw[List.drop_eq_getElem_cons h];rfl
theorem subTake{x:Dat}{l:List Str}{j:Nat}(hx:HasTy TT 61 x)(hl:elsOf x=l.map .str)(hj:j≤l.length):HasTy TT 61 (slSub 1 x (elsOf x) 0 (j:Int))∧elsOf (slSub 1 x (elsOf x) 0 (j:Int))=(l.take j).map .str:=by
 obtain⟨l',e',s',n'⟩:=strs_inv hx
 obtain rfl:l'=l:=mapStr_inj (e'.symm.trans hl)
 unfold slSub
 split
 ·rename_i h
  have:j=l'.length:=by have:=h.2;rw[hl,List.length_map] at this;omega
  subst this
  rw[List.take_length]
  exact⟨hx,hl⟩
 ·rw[hl]
  have e:((l'.map Dat.str).take (j:Int).toNat).drop (0:Int).toNat=(l'.take j).map .str:=by
   rw[Int.toNat_natCast,show(0:Int).toNat=0 from rfl,List.drop_zero,List.map_take]
  rw[e]
  refine⟨.sl _ _ _ _ undStrs szStr ((hx.els undStrs).1.le (by rw[hl,List.length_map,List.length_map,List.length_take];omega)) λy hy=>?_,rfl⟩
  obtain⟨s,hs,rfl⟩:=List.mem_map.1 hy
  exact ty_str (s' s (List.mem_of_mem_take hs))
theorem declared_ok{p mb:Nat}{D:Dat}{l:List Dc}{g:Glob}{Qf:OGP}(hD:DL D l)(hb:ScBox g p mb D)(hn:l.length≤2^20)(hcs:∀d∈l,d.cs.length≤2^20)
 (hQ:match pBad [sInt] [] l with|some q=>EndD g.toks.length g Qf 141 (some q)|none=>EndD g.toks.length g Qf 141 (firstTy l l)):EvF TT 80 [.ptr (some (p,0))] g Qf:=by
 have exl:=len_le undDecls hD.ty
 have abs0:l=((elsOf D).drop 0).map absDc:=by rw[List.drop_zero,hD.abs]
 -- the Fields' types
 have second:∀g1,Kp [] g.toks.length g g1→ScBox g1 p mb D→EndD g.toks.length g Qf 141 (firstTy l l)→L80_19 p D ((elsOf D).length:Int) 0 g1 Qf:=by
  intro g1 hk1 hb1 hE
  have hE:EndD g.toks.length g Qf 141 (firstTy l (((elsOf D).drop 0).map absDc)):=by rw[←abs0];exact hE
  refine loopUp (len:=(elsOf D).length) (λi=>∀g1,Kp [] g.toks.length g g1→ScBox g1 p mb D→EndD g.toks.length g Qf 141 (firstTy l (((elsOf D).drop i).map absDc))→L80_19 p D ((elsOf D).length:Int) (i:Int) g1 Qf) ?_ ?_ 0 (Nat.zero_le _) g1 hk1 hb1 hE
  ·intro g1 hk1 hb1 hE
   refine w80_19 ?_
   rw[Br_ge]
   rw[List.drop_length] at hE
   exact hE g1 hk1
  ·intro i hi ih g1 hk1 hb1 hE
   refine w80_19 ?_
   rw[Br_lt hi,getE_nat hi]
   rw[absDc_at hi] at hE
   have hty:=(hD.ty.els undDecls).2 _ (List.getElem_mem hi)
   obtain⟨s2,a2,b2,q2,e,hs2,ha2,hb2⟩:=decl_ty hty
   rw[e] at hty hE⊢
   refine⟨inB hi,?_⟩
   show L80_22 p D ((elsOf D).length:Int) (i:Int) b2 ((elsOf b2).length:Int) 0 (.agg [.str s2,a2,b2,.int .i64 q2]) g1 Qf
   have eb:=hb2.els undCons
   have ebl:=eb.1.1
   have hps:elsOf (fld (.agg [.str s2,a2,b2,.int .i64 q2]) 1)=((elsOf a2).map strOf).map .str:=strEls ha2
   have hE:EndD g.toks.length g Qf 141 (bif consTy l ((elsOf a2).map strOf) (((elsOf b2).drop 0).map absCn) then firstTy l (((elsOf D).drop (i+1)).map absDc) else some q2):=by rw[List.drop_zero];exact hE
   refine loopUp (len:=(elsOf b2).length) (λj=>∀g1,Kp [] g.toks.length g g1→ScBox g1 p mb D→EndD g.toks.length g Qf 141 (bif consTy l ((elsOf a2).map strOf) (((elsOf b2).drop j).map absCn) then firstTy l (((elsOf D).drop (i+1)).map absDc) else some q2)→
    L80_22 p D ((elsOf D).length:Int) (i:Int) b2 ((elsOf b2).length:Int) (j:Int) (.agg [.str s2,a2,b2,.int .i64 q2]) g1 Qf) ?_ ?_ 0 (Nat.zero_le _) g1 hk1 hb1 hE
   ·intro g1 hk1 hb1 hE
    refine w80_22 ?_
    rw[Br_ge,wrap_nat (by omega)]
    rw[List.drop_length] at hE
    exact ih g1 hk1 hb1 hE
   ·intro j hj ihj g1 hk1 hb1 hE
    refine w80_22 ?_
    rw[Br_lt hj,getE_nat hj]
    rw[List.drop_eq_getElem_cons hj,List.map_cons] at hE
    obtain⟨t3,f3,e3,ht3,tf3⟩:=con_ty (eb.2 _ (List.getElem_mem hj))
    rw[e3] at hE⊢
    have et:=tf3.els undTypes
    have etl:=et.1.1
    refine⟨inB hj,?_⟩
    show L80_25 p D ((elsOf D).length:Int) (i:Int) b2 ((elsOf b2).length:Int) (j:Int) f3 ((elsOf f3).length:Int) 0 (.agg [.str s2,a2,b2,.int .i64 q2]) g1 Qf
    have hE:EndD g.toks.length g Qf 141 (bif typedTs l ((elsOf a2).map strOf) (((elsOf f3).drop 0).map absTy)&&consTy l ((elsOf a2).map strOf) (((elsOf b2).drop (j+1)).map absCn) then firstTy l (((elsOf D).drop (i+1)).map absDc) else some q2):=by
     rw[List.drop_zero,←absTyA_map];exact hE
    refine loopUp (len:=(elsOf f3).length) (λm=>∀g1,Kp [] g.toks.length g g1→ScBox g1 p mb D→EndD g.toks.length g Qf 141 (bif typedTs l ((elsOf a2).map strOf) (((elsOf f3).drop m).map absTy)&&consTy l ((elsOf a2).map strOf) (((elsOf b2).drop (j+1)).map absCn) then firstTy l (((elsOf D).drop (i+1)).map absDc) else some q2)→
     L80_25 p D ((elsOf D).length:Int) (i:Int) b2 ((elsOf b2).length:Int) (j:Int) f3 ((elsOf f3).length:Int) (m:Int) (.agg [.str s2,a2,b2,.int .i64 q2]) g1 Qf) ?_ ?_ 0 (Nat.zero_le _) g1 hk1 hb1 hE
    ·intro g1 hk1 hb1 hE
     refine w80_25 ?_
     rw[Br_ge,wrap_nat (by omega)]
     rw[List.drop_length] at hE
     exact ihj g1 hk1 hb1 hE
    ·intro m hm ihm g1 hk1 hb1 hE
     refine w80_25 ?_
     rw[Br_lt hm,getE_nat hm]
     rw[List.drop_eq_getElem_cons hm,List.map_cons] at hE
     unfold typedTs at hE
     refine⟨inB hm,typed_ok _ (Nat.lt_succ_self _) (et.2 _ (List.getElem_mem hm)) hty hps hD hb1 λg2 hk2=>⟨_,rfl,?_⟩⟩
     have hk2':Kp [] g.toks.length g g2:=hk1.trans (hk2.le (λj hj=>hj) hk1.tlen)
     refine want_ok (λq=>?_) λq=>⟨trivial,?_⟩
     ·rw[q] at hE
      exact hE g2 hk2'
     ·rw[q,Bool.true_and] at hE
      rw[wrap_nat (by omega)]
      exact ihm g2 hk2' (hk2.at hb1 (by simp)) hE
 have first:∀g2 p2 p3,DS p p2 p3 mb D g g2 [sInt] []→g.boxes.length≤p2→g.boxes.length≤p3→p2≠p3→L80_2 p p2 p3 D ((elsOf D).length:Int) 0 g2 Qf:=by
  intro g2 p2 p3 hS l2 l3 hne
  rw[abs0] at hQ
  have bounds:∀i,(((elsOf D).take i).map absDc).length≤2^20:=λi=>by rw[List.length_map,List.length_take,hD.len];omega
  refine loopUp (len:=(elsOf D).length) (λi=>∀g2 st sc,DS p p2 p3 mb D g g2 st sc→st.length=i+1→sc.length≤i*2^20→
   (match pBad st sc (((elsOf D).drop i).map absDc) with|some q=>EndD g.toks.length g Qf 141 (some q)|none=>EndD g.toks.length g Qf 141 (firstTy l l))→L80_2 p p2 p3 D ((elsOf D).length:Int) (i:Int) g2 Qf) ?_ ?_ 0 (Nat.zero_le _) g2 [sInt] [] hS rfl (Nat.zero_le _) (by rw[←abs0] at hQ⊢;exact hQ)
  ·intro g2 st sc hS _ _ hE
   refine w80_2 ?_
   rw[Br_ge]
   rw[List.drop_length] at hE
   exact⟨D,hD.ty,gokD undDecls sizeDecls rfl hS.bx rfl,second g2 hS.kp hS.bx hE⟩
  ·intro i hi ih g2 st sc hS hst hsc hE
   refine w80_2 ?_
   rw[Br_lt hi,getE_nat hi]
   rw[absDc_at hi] at hE
   have hmem:absDc (elsOf D)[i]∈l:=by rw[←hD.abs];exact List.mem_map_of_mem (List.getElem_mem hi)
   have hcn:=hcs _ hmem
   have hil:i<l.length:=by rw[←hD.len];exact hi
   have hty:=(hD.ty.els undDecls).2 _ (List.getElem_mem hi)
   obtain⟨s2,a2,b2,q2,e,hs2,ha2,hb2⟩:=decl_ty hty
   rw[e] at hty hE hcn⊢
   have hcn:(elsOf b2).length≤2^20:=by simpa[absDc,fld,nth] using hcn
   unfold pBad at hE
   have e0:(absDc (.agg [.str s2,a2,b2,.int .i64 q2]))=⟨s2,(elsOf a2).map strOf,(elsOf b2).map absCn,q2⟩:=rfl
   rw[e0] at hE
   simp only at hE
   obtain⟨n1,bb,m1,g3,m2,m3,m4,n2,bb',m5,m6⟩:=map_one hS.m2 s2 (by omega)
   have hk3:Kp [] g.toks.length g g3:=hS.kp.new m3 l2
   refine⟨inB hi,_,_,m1,g3,m2,_,_,m5,?_⟩
   rw[m6]
   refine want_ok (λq=>?_) λq=>⟨trivial,?_⟩
   ·have q:st.contains s2=true:=by simpa using q
    rw[q] at hE
    exact hE g3 hk3
   have q:st.contains s2=false:=by simpa using q
   rw[q] at hE
   simp only[cond_false] at hE
   have hS3:DS p p2 p3 mb D g g3 (st++[s2]) sc:=⟨hk3,hS.bx.one2 (by
    intro e;have:=hS.bx;unfold ScBox at this;obtain⟨es,c,h1,_⟩:=hS.m2;rw[e,h1] at this;cases this) m3,m4,hS.m3.other (m3.get (λe=>hne e.symm)) (j:=0)⟩
   show L80_7 p p2 p3 D ((elsOf D).length:Int) (i:Int) a2 ((elsOf a2).length:Int) 0 (.agg [.str s2,a2,b2,.int .i64 q2]) g3 Qf
   have hps:elsOf a2=((elsOf a2).map strOf).map .str:=strEls ha2
   generalize hpl:(elsOf a2).map strOf=ps at hE hps
   have eal:=elsLen hps
   have npl:ps.length≤2^40:=by have:=(ha2.els undStrs).1.1;omega
   have sps:=free_strs' ha2 hps
   have eb:=hb2.els undCons
   -- the constructors
   have third:(match (match consF sc ((elsOf b2).map absCn) with|none=>some q2|some sc'=>pBad (st++[s2]) sc' (((elsOf D).drop (i+1)).map absDc)) with|some q=>EndD g.toks.length g Qf 141 (some q)|none=>EndD g.toks.length g Qf 141 (firstTy l l))→
     L80_12 p p2 p3 D ((elsOf D).length:Int) (i:Int) b2 ((elsOf b2).length:Int) 0 (.agg [.str s2,a2,b2,.int .i64 q2]) g3 Qf:=by
    intro hE
    have hE:(match (match consF sc (((elsOf b2).drop 0).map absCn) with|none=>some q2|some sc'=>pBad (st++[s2]) sc' (((elsOf D).drop (i+1)).map absDc)) with|some q=>EndD g.toks.length g Qf 141 (some q)|none=>EndD g.toks.length g Qf 141 (firstTy l l)):=by
     rw[List.drop_zero];exact hE
    refine loopUp (len:=(elsOf b2).length) (λj=>∀g3 sc0,DS p p2 p3 mb D g g3 (st++[s2]) sc0→sc0.length=sc.length+j→(match (match consF sc0 (((elsOf b2).drop j).map absCn) with|none=>some q2|some sc'=>pBad (st++[s2]) sc' (((elsOf D).drop (i+1)).map absDc)) with|some q=>EndD g.toks.length g Qf 141 (some q)|none=>EndD g.toks.length g Qf 141 (firstTy l l))→
     L80_12 p p2 p3 D ((elsOf D).length:Int) (i:Int) b2 ((elsOf b2).length:Int) (j:Int) (.agg [.str s2,a2,b2,.int .i64 q2]) g3 Qf) ?_ ?_ 0 (Nat.zero_le _) g3 sc hS3 rfl hE
    ·intro g3 sc0 hS3 hsc0 hE
     refine w80_12 ?_
     rw[Br_ge,wrap_nat (by omega)]
     rw[List.drop_length] at hE
     refine ih g3 (st++[s2]) sc0 hS3 (by simp[hst]) ?_ hE
     have:(i+1)*2^20=i*2^20+2^20:=by rw[Nat.add_mul,Nat.one_mul]
     omega
    ·intro j hj ihj g3 sc0 hS3 hsc0 hE
     refine w80_12 ?_
     rw[Br_lt hj,getE_nat hj]
     rw[List.drop_eq_getElem_cons hj,List.map_cons] at hE
     obtain⟨t3,f3,e3,ht3,tf3⟩:=con_ty (eb.2 _ (List.getElem_mem hj))
     rw[e3] at hE⊢
     unfold consF at hE
     have e1:(absCn (.agg [.str t3,f3])).s=t3:=rfl
     rw[e1] at hE
     have hbd:i*2^20≤2^20*2^20:=Nat.mul_le_mul_right _ (by omega)
     obtain⟨n1,bb,m1,g4,m2,m3,m4,n2,bb',m5,m6⟩:=map_one hS3.m3 t3 (by omega)
     have hk4:Kp [] g.toks.length g g4:=hS3.kp.new m3 l3
     refine⟨inB hj,_,_,m1,g4,m2,_,_,m5,?_⟩
     rw[m6]
     refine want_ok (λq=>?_) λq=>⟨trivial,?_⟩
     ·have q:sc0.contains t3=true:=by simpa using q
      rw[q] at hE
      exact hE g4 hk4
     ·have q:sc0.contains t3=false:=by simpa using q
      rw[q] at hE
      simp only[cond_false] at hE
      rw[wrap_nat (by omega)]
      refine ihj g4 (sc0++[t3]) ⟨hk4,hS3.bx.one2 (by
       intro e;have:=hS3.bx;unfold ScBox at this;obtain⟨es,c,h1,_⟩:=hS3.m3;rw[e,h1] at this;cases this) m3,hS3.m2.other (m3.get hne) (j:=0),m4⟩ (by simp[hsc0];omega) hE
   -- the parameters
   have hE:(match (bif dupS (ps.take 0) (ps.drop 0) then some q2 else(match consF sc ((elsOf b2).map absCn) with|none=>some q2|some sc'=>pBad (st++[s2]) sc' (((elsOf D).drop (i+1)).map absDc))) with|some q=>EndD g.toks.length g Qf 141 (some q)|none=>EndD g.toks.length g Qf 141 (firstTy l l)):=by
    rw[List.take_zero,List.drop_zero];exact hE
   rw[eal]
   refine loopUp (len:=ps.length) (λj=>(match (bif dupS (ps.take j) (ps.drop j) then some q2 else(match consF sc ((elsOf b2).map absCn) with|none=>some q2|some sc'=>pBad (st++[s2]) sc' (((elsOf D).drop (i+1)).map absDc))) with|some q=>EndD g.toks.length g Qf 141 (some q)|none=>EndD g.toks.length g Qf 141 (firstTy l l))→
    L80_7 p p2 p3 D ((elsOf D).length:Int) (i:Int) a2 (ps.length:Int) (j:Int) (.agg [.str s2,a2,b2,.int .i64 q2]) g3 Qf) ?_ ?_ 0 (Nat.zero_le _) hE
   ·intro hE
    refine w80_7 ?_
    rw[Br_ge]
    rw[List.drop_length] at hE
    exact third hE
   ·intro j hj ihj hE
    refine w80_7 ?_
    rw[Br_lt hj,strAt hps hj]
    rw[List.drop_eq_getElem_cons hj] at hE
    unfold dupS at hE
    obtain⟨u1,u2⟩:=subTake ha2 hps (Nat.le_of_lt hj)
    refine⟨by rw[eal];exact inB hj,⟨Int.le_refl _,by omega,by show(j:Int)≤((elsOf a2).length:Int);omega⟩,sContains_ok u1 u2 (sps _ (List.getElem_mem hj)) ⟨_,rfl,want_ok (λq=>?_) λq=>⟨trivial,?_⟩⟩⟩
    ·have q:(ps.take j).contains ps[j]=true:=by simpa using q
     rw[q] at hE
     exact hE g3 hk3
    ·have q:(ps.take j).contains ps[j]=false:=by simpa using q
     rw[q,Bool.false_or,←List.take_succ_eq_append_getElem hj] at hE
     rw[wrap_nat (by omega)]
     exact ihj hE
 refine w80 ?_
 have mn:=mapIs_new true g
 have e0:(λ_:Dat=>(none:Option Dat))=cntF (cB []):=by funext k;cases k<;>simp[cntF,cB]
 rw[e0] at mn
 obtain⟨g1,a1,b1,c1⟩:=mn.put (strKey sInt) (.int .i64 1)
 have c1:MapIs true g1 g.boxes.length (cntF (cB [sInt])):=by
  have:=updF_put (cB []) sInt (n:=1) (by omega)
  rw[show((1:Nat):Int)=1 from rfl] at this
  rw[this] at c1
  have e:setC (cB []) sInt 1=cB [sInt]:=by
   have:=setC_inc (cB []) sInt
   rw[cB_app] at this
   exact this
  rw[e] at c1
  exact c1
 have k1:Kp [] g.toks.length g g1:=(kp_gmnew g _).new b1 (Nat.le_refl _)
 have l1:g1.boxes.length=g.boxes.length+1:=by rw[b1.len,gmnew_len]
 have k2:Kp [] g.toks.length g (gmnew g1):=k1.trans (kp_gmnew _ _)
 have hb2:ScBox (gmnew g1) p mb D:=k2.at hb (by simp)
 have mn2:=mapIs_new true g1
 rw[e0] at mn2
 refine⟨g1,a1,D,hD.ty,gokD undDecls sizeDecls rfl hb2 rfl,first _ _ _ ⟨k2,hb2,c1.other (gmnew_old (by omega)) (j:=0),mn2⟩ (Nat.le_refl _) (by omega) (by omega)⟩
end Go.Proofs.YtgmapdcdmomioaaGreatDoor.Pa
namespace Go.Proofs.YtgmapdcdmomioaaGreatDoor.Pa
open Go Go.Proofs.YtgmapdcdmomioaaGreatDoor.Am
theorem Kp.newK{bx:List Nat}{b b' i:Nat}{g g1 g2:Glob}(h:Kp bx b g g1)(ho:Kp [i] b' g1 g2)(hi:g.boxes.length≤i)(hb:b≤b'):Kp bx b g g2:=
 ⟨Nat.le_trans h.len ho.len,λj hj hx=>by rw[ho.box j (Nat.lt_of_lt_of_le hj h.len) (by simp;omega)];exact h.box j hj hx,Nat.le_trans h.tlen ho.tlen,λj hj=>by rw[ho.tok j (Nat.lt_of_lt_of_le hj hb)];exact h.tok j hj⟩
theorem ScBox.decls{g:Glob}{p mb:Nat}{D:Dat}(h:ScBox g p mb D):GOk TT 23 g p 0 D:=gokD undDecls sizeDecls rfl h rfl
theorem con_ok{p mb m:Nat}{D:Dat}{l:List Dc}{s:Str}{at_:Int}{g:Glob}{Qf:OGP}(hD:DL D l)(hb:ScBox g p mb D)(hs:s.length≤2^40)(hT:conOk l s m=true→Qf (.val (.tuple [])) g)(hF:conOk l s m=false→Qf (.panic (fltD 140 at_)) g):
 EvF TT 148 [.ptr (some (p,0)),.str s,.int .i64 m,.int .i64 at_] g Qf:=by
 refine w148 hs ⟨D,hD.ty,hb.decls,find_ok D s g hD.ty hs _ ?_⟩
 rw[hD.abs]
 rcases findDc_spec s l 0 with ⟨i,j,d,c,e,hi,hj,hf⟩|⟨e,hf⟩
 ·rw[e,Int.zero_add]
  have hlt:i<l.length:=(List.getElem?_eq_some_iff.1 hi).1
  obtain⟨s4,a4,b4,p4,eg,_,_,hb4,el⟩:=hD.get hlt
  rw[List.getElem?_eq_getElem hlt] at hi
  have hd:d=⟨s4,(elsOf a4).map strOf,(elsOf b4).map absCn,p4⟩:=by rw[←el];exact(Option.some.inj hi).symm
  subst hd
  have hj:((elsOf b4).map absCn)[j]?=some c:=hj
  have hjl:j<(elsOf b4).length:=by have:=(List.getElem?_eq_some_iff.1 hj).1;rwa [List.length_map] at this
  rw[List.getElem?_map,List.getElem?_eq_getElem hjl] at hj
  have hc:absCn (elsOf b4)[j]=c:=by simpa using hj
  refine⟨_,_,_,⟨rfl,rfl,rfl,trivial⟩,⟨D,hD.ty,hb.decls,by rw[hD.len];exact inB hlt,?_⟩⟩
  rw[eg]
  show InB (j:Int) (elsOf b4).length∧EvF TT 145 [Dat.bool (((elsOf (fld (getE (elsOf b4) (j:Int)) 1)).length:Int)==(m:Int)),_,_] g _
  rw[getE_nat hjl]
  have hfs:c.fs.length=(elsOf (fld (elsOf b4)[j] 1)).length:=by rw[←hc,absCn_len]
  have hco:conOk l s m=(((elsOf (fld (elsOf b4)[j] 1)).length:Int)==(m:Int)):=by
   unfold conOk
   rw[hf,hfs,Bool.eq_iff_iff]
   simp
   omega
  refine⟨inB hjl,want_ok (λq=>hF (by rw[hco];exact q)) λq=>⟨trivial,hT (by rw[hco];exact q)⟩⟩
 ·rw[e]
  have hco:conOk l s m=false:=by unfold conOk;rw[hf];rfl
  exact⟨_,_,_,⟨rfl,rfl,rfl,trivial⟩,want_ok (λ_=>hF hco) λq=>by cases q⟩
mutual
theorem patF_len(l:List Dc):∀(x:Pt) (ns r:List Str),patF l x ns=.ok r→r.length≤ns.length+szPt x
 |.mk k s n a p,ns,r,h=>by
  unfold patF at h
  simp only[szPt]
  cases q:k==2 with
  |true=>
   rw[q] at h
   cases q2:ns.contains s with
   |true=>rw[q2] at h;cases h
   |false=>
    rw[q2] at h
    have:=patFs_len l a (ns++[s]) r h
    simp only[List.length_append,List.length_cons,List.length_nil] at this
    omega
  |false=>
   rw[q] at h
   cases q2:k==4&&!(conOk l s a.length) with
   |true=>rw[q2] at h;cases h
   |false=>
    rw[q2] at h
    have:=patFs_len l a ns r h
    omega
theorem patFs_len(l:List Dc):∀(x:List Pt) (ns r:List Str),patFs l x ns=.ok r→r.length≤ns.length+szPts x
 |[],ns,r,h=>by cases h;exact Nat.le_refl _
 |x::xs,ns,r,h=>by
  unfold patFs at h
  cases q:patF l x ns with
  |bad p=>rw[q] at h;cases h
  |ok ns'=>
   rw[q] at h
   have h1:=patF_len l x ns ns' q
   have h2:=patFs_len l xs ns' r h
   simp only[szPts]
   omega
end
def PEnd(b p2:Nat)(g:Glob)(Qf:OGP):PR→Prop
 |.bad q=>∀g',Kp [p2] b g g'→Qf (.panic (fltD 140 q)) g'
 |.ok ns=>∀g' X',g'.boxes[p2]?=some (.cells [.d X'])→Gr b g' X' ns→(∀s∈ns,s.length≤2^40)→Kp [p2] b g g'→Qf (.val (.tuple [])) g'
theorem PEnd.later{b p2:Nat}{g g':Glob}{Qf:OGP}{r:PR}(h:PEnd b p2 g Qf r)(k:Kp [p2] b g g'):PEnd b p2 g' Qf r:=by
 cases r with
 |bad q=>exact λg2 k2=>h g2 (k.trans k2)
 |ok ns=>exact λg2 X' h1 h2 h3 k2=>h g2 X' h1 h2 h3 (k.trans k2)
theorem pat_ok:∀(n:Nat) {x D X:Dat} {l:List Dc} {ns:List Str} {p p2 mb b:Nat} {g:Glob} {Qf:OGP},SizeOf.sizeOf x<n→HasTy TT 127 x→DL D l→ScBox g p mb D→g.boxes[p2]?=some (.cells [.d X])→Gr b g X ns→b≤g.toks.length→
 (∀s∈ns,s.length≤2^40)→ns.length+szPt (absPt x)≤2^29→PEnd b p2 g Qf (patF l (absPt x) ns)→EvF TT 149 [.ptr (some (p,0)),x,.ptr (some (p2,0))] g Qf
 |0,x,D,X,l,ns,p,p2,mb,b,g,Qf,hsz,_,_,_,_,_,_,_,_,_=>by omega
 |n+1,x,D,X,l,ns,p,p2,mb,b,g,Qf,hsz,hx,hD,hb,hp2,hg,hbt,hs,hn,hE=>by
  obtain⟨k1,s1,v1,a1,q1,rfl,hs1,t1⟩:=pat_ty hx
  have ex:=t1.els undPats
  have exl:=ex.1.1
  have hc:=sizeOf_cell (cs:=[.int .i64 k1,.str s1,.int .i64 v1,a1,.int .i64 q1]) (c:=a1) (by simp)
  have e1:patF l (absPt (.agg [.int .i64 k1,.str s1,.int .i64 v1,a1,.int .i64 q1])) ns=(bif k1==2 then(bif ns.contains s1 then .bad q1 else patFs l (((elsOf a1).drop 0).map absPt) (ns++[s1])) else bif k1==4&&!(conOk l s1 (elsOf a1).length) then .bad q1 else patFs l (((elsOf a1).drop 0).map absPt) ns):=by
   simp only[absPt,patF,absPtA_map,List.length_map,List.drop_zero]
  have e2:szPt (absPt (.agg [.int .i64 k1,.str s1,.int .i64 v1,a1,.int .i64 q1]))=1+szPts (((elsOf a1).drop 0).map absPt):=by simp only[absPt,szPt,absPtA_map,List.drop_zero]
  rw[e1] at hE
  rw[e2] at hn
  have hne:p≠p2:=λe=>by
   unfold ScBox at hb
   rw[e,hp2] at hb
   cases hb
  have loop:∀{X:Dat} {ns:List Str} {g0:Glob},ScBox g0 p mb D→g0.boxes[p2]?=some (.cells [.d X])→Gr b g0 X ns→b≤g0.toks.length→(∀s∈ns,s.length≤2^40)→ns.length+szPts (((elsOf a1).drop 0).map absPt)≤2^29→PEnd b p2 g0 Qf (patFs l (((elsOf a1).drop 0).map absPt) ns)→
   L149_8 p p2 a1 ((elsOf a1).length:Int) 0 g0 Qf:=by
   intro X ns g0 hb hp2 hg hbt hs hn hE
   refine loopUp (len:=(elsOf a1).length) (λi=>∀{X:Dat} {ns:List Str} {g0:Glob},ScBox g0 p mb D→g0.boxes[p2]?=some (.cells [.d X])→Gr b g0 X ns→b≤g0.toks.length→(∀s∈ns,s.length≤2^40)→ns.length+szPts (((elsOf a1).drop i).map absPt)≤2^29→PEnd b p2 g0 Qf (patFs l (((elsOf a1).drop i).map absPt) ns)→
    L149_8 p p2 a1 ((elsOf a1).length:Int) (i:Int) g0 Qf) ?_ ?_ 0 (Nat.zero_le _) hb hp2 hg hbt hs hn hE
   ·intro X ns g0 hb hp2 hg hbt hs hn hE
    refine w149_8 ?_
    rw[Br_ge]
    rw[List.drop_length] at hE
    exact hE g0 X hp2 hg hs (Kp.refl _ _ _)
   ·intro i hi ih X ns g0 hb hp2 hg hbt hs hn hE
    refine w149_8 ?_
    rw[Br_lt hi,getE_nat hi]
    have h1:=sizeOf_el hi
    rw[szPts_drop hi] at hn
    rw[List.drop_eq_getElem_cons hi,List.map_cons] at hE
    unfold patFs at hE
    refine⟨inB hi,pat_ok n (by omega) (ex.2 _ (List.getElem_mem hi)) hD hb hp2 hg hbt hs (by omega) ?_⟩
    cases hr:patF l (absPt (elsOf a1)[i]) ns with
    |bad q=>
     rw[hr] at hE
     exact λg' k'=>hE g' k'
    |ok ns'=>
     rw[hr] at hE
     intro g' X' h3 h4 h5 k'
     refine⟨trivial,?_⟩
     rw[wrap_nat (by omega)]
     have hl:=patF_len l _ _ _ hr
     exact ih (k'.at hb (by simpa using hne)) h3 h4 (Nat.le_trans hbt k'.tlen) h5 (by omega) (hE.later k')
  refine w149 hx ?_
  show Br (k1==2) _ (Br (k1==4) _ _)
  refine Br_iff.2 ⟨λq=>?_,λq=>Br_iff.2 ⟨λq2=>?_,λq2=>?_⟩⟩
  ·rw[q] at hE
   have hX:=hg.ty (by omega) hs
   refine⟨X,hX,gokD undStrs sizeStrs rfl hp2 rfl,sContains_ok hX hg.els hs1 ⟨_,rfl,want_ok (λq3=>?_) λq3=>⟨trivial,?_⟩⟩⟩
   ·have q3:(!ns.contains s1)=false:=q3
    have q3:ns.contains s1=true:=by simpa using q3
    rw[q3] at hE
    exact hE g (Kp.refl _ _ _)
   ·have q3:(!ns.contains s1)=true:=q3
    have q3:ns.contains s1=false:=by simpa using q3
    rw[q3] at hE
    simp only[cond_true,cond_false] at hE
    obtain⟨r,g2,r1,r2,r3⟩:=hg.app hbt s1
    have hp2':g2.boxes[p2]?=some (.cells [.d X]):=by rw[r3.boxes];exact hp2
    have hr:r.one=true:=by rcases r2 with ⟨rfl,_⟩|⟨kk,rfl,_⟩<;>rfl
    obtain⟨w1,w2⟩:=gput_one hp2' hr
    have hX1:X.one=true:=by rcases hg with ⟨rfl,_⟩|⟨kk,rfl,_⟩<;>rfl
    refine⟨X,hX,gokD undStrs sizeStrs rfl hp2 rfl,⟨_,_,gloadD undStrs sizeStrs rfl hp2 rfl,gloadD undStrs sizeStrs rfl (show(gtok g 1 1).boxes[p2]?=_ from hp2) rfl,Dat.beq_refl X⟩,fitS' (by rw[elsLen hg.els];simp only[List.length_cons,List.length_nil];omega),r,g2,r1,w1,?_⟩
    rw[w2]
    have ko:OneBox p2 g2 {g2 with boxes:=g2.boxes.set p2 (.cells [.d r])}:=⟨_,rfl⟩
    have kk:Kp [p2] b g {g2 with boxes:=g2.boxes.set p2 (.cells [.d r])}:=(r3.kp.le (λj hj=>by cases hj) (Nat.le_refl _)).trans (boxKp ko b)
    have hlt:=(List.getElem?_eq_some_iff.1 hp2').1
    refine loop (X:=r) (ns:=ns++[s1]) (kk.at hb (by simpa using hne)) (by simp only;rw[List.getElem?_set_self hlt]) (r2.toks rfl) (Nat.le_trans hbt kk.tlen) (λs h=>?_) (by simp only[List.length_append,List.length_cons,List.length_nil];omega) (hE.later kk)
    rcases List.mem_append.1 h with h|h
    ·exact hs s h
    ·rw[List.mem_singleton] at h;subst h;exact hs1
  ·rw[q,q2] at hE
   refine con_ok hD hb hs1 (λh=>⟨trivial,?_⟩) λh=>?_
   ·have h:conOk l s1 (elsOf a1).length=true:=h
    rw[h] at hE
    exact loop hb hp2 hg hbt hs (by omega) hE
   ·have h:conOk l s1 (elsOf a1).length=false:=h
    rw[h] at hE
    exact hE g (Kp.refl _ _ _)
  ·rw[q,q2] at hE
   exact loop hb hp2 hg hbt hs (by omega) hE
theorem cB_pos(bd:List Str)(s:Str):decide (0<((cB bd s:Nat):Int))=bd.contains s:=by
 have h:=cB_zero bd s
 cases hc:bd.contains s with
 |true=>
  rw[hc] at h
  have h0:((cB bd s:Nat):Int)≠0:=λe=>by rw[e] at h;cases h
  exact decide_eq_true (by omega)
 |false=>
  rw[hc] at h
  have h0:((cB bd s:Nat):Int)=0:=by simpa using h
  exact decide_eq_false (by omega)
theorem okEx_case{s r:Str}{n la lb:Int}(h:okEx1 7 s r n la lb=true):la=lb+1:=by
 unfold okEx1 at h
 cases q:(!((7:Int)==6)&&!(r==[]))||((!((7:Int)==2)&&!(n==0))||(!((7:Int)==7)&&pos0 lb)) with
 |true=>rw[q] at h;cases h
 |false=>
  rw[q] at h
  have h:((s==[])&&(pos0 lb&&(la==lb+1)))=true:=h
  simp only[Bool.and_eq_true,beq_iff_eq] at h
  exact h.2.2
theorem okExs_mem{l:List Ex'}{i:Nat}{x:Ex'}(h:okExs l=true)(hi:l[i]?=some x):okEx x=true:=by
 induction l generalizing i with
 |nil=>simp at hi
 |cons y l ih=>
  unfold okExs at h
  rw[Bool.and_eq_true] at h
  cases i with
  |zero=>simp at hi;subst hi;exact h.1
  |succ i=>exact ih h.2 (by simpa using hi)
def EEnd(b mb:Nat)(bd:List Str)(g:Glob)(Qf:OGP):Option Int→Prop
 |some q=>∀g',Kp [mb] b g g'→Qf (.panic (fltD 140 q)) g'
 |none=>∀g',Kp [mb] b g g'→MapIs true g' mb (cntF (cB bd))→Qf (.val (.tuple [])) g'
theorem EEnd.later{b mb:Nat}{bd:List Str}{g g':Glob}{Qf:OGP}{r:Option Int}(h:EEnd b mb bd g Qf r)(k:Kp [mb] b g g'):EEnd b mb bd g' Qf r:=by
 cases r with
 |some q=>exact λg2 k2=>h g2 (k.trans k2)
 |none=>exact λg2 k2 hm=>h g2 (k.trans k2) hm
theorem scope_ne{g:Glob}{p mb:Nat}{D:Dat}{F:Dat→Option Dat}(h:ScBox g p mb D)(hm:MapIs true g mb F):p≠mb:=λe=>by
 obtain⟨es,c,h1,_⟩:=hm
 unfold ScBox at h
 rw[e,h1] at h
 cases h
theorem expr_ok:∀(n:Nat) {x D:Dat} {l:List Dc} {bd:List Str} {p mb b:Nat} {g:Glob} {Qf:OGP},SizeOf.sizeOf x<n→HasTy TT 27 x→okEx (absEx x)=true→DL D l→ScBox g p mb D→MapIs true g mb (cntF (cB bd))→b≤g.toks.length→
 bd.length+2*szEx (absEx x)≤2^28→EEnd b mb bd g Qf (exprF l (absEx x) bd)→EvF TT 81 [.ptr (some (p,0)),x] g Qf
 |0,x,D,l,bd,p,mb,b,g,Qf,hsz,_,_,_,_,_,_,_,_=>by omega
 |n+1,x,D,l,bd,p,mb,b,g,Qf,hsz,hx,hok,hD,hb,hm,hbt,hn,hE=>by
  obtain⟨k1,s1,r1,v1,a1,b1,q1,rfl,hs1,hr1,t1,u1⟩:=expr_ty hx
  have ex:=t1.els undExprs
  have exl:=ex.1.1
  have eu:=u1.els undPats
  have hc:=sizeOf_cell (cs:=[.int .i64 k1,.str s1,.str r1,.int .i64 v1,a1,b1,.int .i64 q1]) (c:=a1) (by simp)
  have e1:exprF l (absEx (.agg [.int .i64 k1,.str s1,.str r1,.int .i64 v1,a1,b1,.int .i64 q1])) bd=(bif k1==1&&!(bd.contains s1) then some q1 else bif k1==8&&!(conOk l s1 (elsOf a1).length) then some q1 else exprFs l (namesAt l k1 s1 r1 ((elsOf b1).map absPt)) (((elsOf a1).drop 0).map absEx) 0 bd):=by
   simp only[absEx,exprF,absPtA_map,absExA_map,List.length_map,List.drop_zero]
  have e2:szEx (absEx (.agg [.int .i64 k1,.str s1,.str r1,.int .i64 v1,a1,b1,.int .i64 q1]))=1+szPts ((elsOf b1).map absPt)+szExs (((elsOf a1).drop 0).map absEx):=by simp only[absEx,szEx,absPtA_map,absExA_map,List.drop_zero]
  have e3:okEx1 k1 s1 r1 v1 (elsOf a1).length (elsOf b1).length=true∧okExs ((elsOf a1).map absEx)=true:=by
   have h:okEx (.mk k1 s1 r1 v1 (absExA a1) (absPtA b1) q1)=true:=hok
   unfold okEx at h
   rw[Bool.and_eq_true,Bool.and_eq_true,absExA_map,absPtA_map,List.length_map,List.length_map] at h
   exact⟨h.1,h.2.2⟩
  rw[e1] at hE
  rw[e2] at hn
  have hne:=scope_ne hb hm
  have L7:∀(i:Nat),i≤(elsOf a1).length→∀{g0:Glob} {p2:Nat},g0.boxes[p2]?=some (.cells [.d (.ptr (some (p,0)))])→ScBox g0 p mb D→MapIs true g0 mb (cntF (cB bd))→b≤g0.toks.length→EEnd b mb bd g0 Qf (exprFs l (namesAt l k1 s1 r1 ((elsOf b1).map absPt)) (((elsOf a1).drop i).map absEx) i bd)→
   L81_7 p2 a1 ((elsOf a1).length:Int) (i:Int) (.agg [.int .i64 k1,.str s1,.str r1,.int .i64 v1,a1,b1,.int .i64 q1]) g0 Qf:=by
   refine loopUp (len:=(elsOf a1).length) _ ?_ ?_
   ·intro g0 p2 h2 hb hm hbt hE
    refine w81_7 ?_
    rw[Br_ge]
    rw[List.drop_length] at hE
    exact hE g0 (Kp.refl _ _ _) hm
   ·intro i hi ih g0 p2 h2 hb hm hbt hE
    refine w81_7 ?_
    rw[Br_lt hi,getE_nat hi]
    have h1:=sizeOf_el hi
    have htx:=ex.2 _ (List.getElem_mem hi)
    have hmem:szEx (absEx (elsOf a1)[i])≤szExs (((elsOf a1).drop 0).map absEx):=szExs_mem (i:=i) (by rw[List.drop_zero,List.getElem?_map,List.getElem?_eq_getElem hi];rfl)
    have hoki:okEx (absEx (elsOf a1)[i])=true:=okExs_mem (i:=i) e3.2 (by rw[List.getElem?_map,List.getElem?_eq_getElem hi];rfl)
    rw[List.drop_eq_getElem_cons hi,List.map_cons] at hE
    unfold exprFs at hE
    refine⟨inB hi,?_⟩
    obtain⟨ds,hds,hd7⟩:∃ds,(elsOf a1)[i]=.agg ds∧ds.length=7:=by
     obtain⟨k',s',r',n',a',b',p',e,_⟩:=expr_ty htx
     exact⟨_,e,rfl⟩
    rw[hds] at h1 htx hE hmem hoki⊢
    obtain⟨g1a,g1b⟩:=gput_new (g:=g0) (z:=[Dat.int IntKind.i64 0,Dat.str [],Dat.str [],Dat.int IntKind.i64 0,Dat.nil,Dat.nil,Dat.int IntKind.i64 0]) (ds:=ds) rfl hd7
    rw[g1b]
    refine⟨g1a,w81_9 ?_⟩
    generalize hG:gnew (gnew g0 ds) [Dat.nil]=G
    have kG:Kp [] g0.toks.length g0 G:=by rw[←hG];exact(kp_gnew _ _ _).trans (kp_gnew _ _ _)
    have tG:G.toks=g0.toks:=by rw[←hG];rfl
    have p5:G.boxes[g0.boxes.length]?=some (.cells (ds.map .d)):=by rw[←hG];exact gnew4 _ _ (gnew_get _ _)
    have p6:G.boxes[(gnew g0 ds).boxes.length]?=some (.cells [.d .nil]):=by rw[←hG];exact gnew_get _ _
    have h6:(gnew g0 ds).boxes.length=g0.boxes.length+1:=gnew_len _ _
    have kmb:mb<g0.boxes.length:=hm.lt
    have kG':Kp [mb] b g0 G:=kG.le (λj hj=>by cases hj) hbt
    have h2G:=kG.at h2 (by simp)
    have hbG:ScBox G p mb D:=kG.at hb (by simp)
    have hmG:MapIs true G mb (cntF (cB bd)):=hm.other (kG.box mb kmb (by simp)) (j:=0)
    have lt2:=(List.getElem?_eq_some_iff.1 h2).1
    have ltp:p<g0.boxes.length:=(List.getElem?_eq_some_iff.1 hb).1
    -- behind the names
    have K13:∀{g2:Glob} {Z:Dat} {ns:List Str},Kp [(gnew g0 ds).boxes.length] g0.toks.length G g2→g2.boxes[(gnew g0 ds).boxes.length]?=some (.cells [.d Z])→HasTy TT 61 Z→elsOf Z=ns.map .str→ns.length≤2+szPts ((elsOf b1).map absPt)→
     EEnd b mb bd g0 Qf (match exprF l (absEx (.agg ds)) (bd++ns) with|some q=>some q|none=>exprFs l (namesAt l k1 s1 r1 ((elsOf b1).map absPt)) (((elsOf a1).drop (i+1)).map absEx) (i+1) bd)→
     L81_13 p2 g0.boxes.length (gnew g0 ds).boxes.length a1 ((elsOf a1).length:Int) (i:Int) (.agg [.int .i64 k1,.str s1,.str r1,.int .i64 v1,a1,b1,.int .i64 q1]) g2 Qf:=by
     intro g2 Z ns k2 hZb hZ eZ hnl hE
     have no6:∀{j:Nat},j<g0.boxes.length→j ∉ [(gnew g0 ds).boxes.length]:=λh=>by simp;omega
     have h22:=k2.at h2G (no6 lt2)
     have hb2:ScBox g2 p mb D:=k2.at hbG (no6 ltp)
     have hm2:MapIs true g2 mb (cntF (cB bd)):=hmG.other (k2.box mb hmG.lt (no6 kmb)) (j:=0)
     have p52:=k2.at p5 (show g0.boxes.length ∉ [(gnew g0 ds).boxes.length] by simp;omega)
     have k02:Kp [mb] b g0 g2:=kG'.newK k2 (by omega) hbt
     refine w81_13 ⟨p,0,gokD undSp sizeSp rfl h22 rfl,Z,hZ,gokD undStrs sizeStrs rfl hZb rfl,?_⟩
     refine with_ok hZ eZ (λs=>by have:=cB_le bd s;omega) hb2 hm2 λg3 ho3 hm3=>?_
     rw[cB_app] at hm3⊢
     have k03:Kp [mb] b g0 g3:=k02.trans (boxKp ho3 b)
     obtain⟨ed,hfs,hea⟩:=undExpr
     have ne2:p2≠mb:=λe=>by
      obtain⟨es,c,h1,_⟩:=hm
      rw[e,h1] at h2
      cases h2
     have h23:g3.boxes[p2]?=_:=(ho3.get ne2).trans h22
     have p53:g3.boxes[g0.boxes.length]?=_:=(ho3.get (by omega)).trans p52
     have hb3:ScBox g3 p mb D:=hb2.one hm2 ho3
     refine w150 ⟨p,0,gokD undSp sizeSp rfl h23 rfl,.agg ds,htx,gok_agg hfs szExpr hea p53 hd7,?_⟩
     refine expr_ok n (b:=b) (by omega) htx hoki hD hb3 hm3 (Nat.le_trans hbt k03.tlen) (by rw[List.length_append];omega) ?_
     cases hr:exprF l (absEx (.agg ds)) (bd++ns) with
     |some q=>
      rw[hr] at hE
      exact λg4 k4=>hE g4 (k03.trans k4)
     |none=>
      rw[hr] at hE
      intro g4 k4 hm4
      have k04:=k03.trans k4
      refine⟨trivial,trivial,k04.at hb (by simpa using hne),hm4,λg5 ho5 hm5=>⟨trivial,?_⟩⟩
      rw[wrap_nat (by omega)]
      have k05:Kp [mb] b g0 g5:=k04.trans (boxKp ho5 b)
      exact ih (k05.at h2 (by simpa using ne2)) (k05.at hb (by simpa using hne)) hm5 (Nat.le_trans hbt k05.tlen) (hE.later k05)
    -- names that an expression binds itself
    have KB:namesAt l k1 s1 r1 ((elsOf b1).map absPt) i=.ok (bindsOf k1 s1 r1 ((elsOf b1).map absPt) i)→EvF TT 91 [.agg [.int .i64 k1,.str s1,.str r1,.int .i64 v1,a1,b1,.int .i64 q1],Dat.int IntKind.i64 i] G (KQ Qf λv g'=>∃x,HasTy TT 61 x∧RetV v x∧GPut g' (gnew g0 ds).boxes.length 0 1∧
      L81_13 p2 g0.boxes.length (gnew g0 ds).boxes.length a1 ((elsOf a1).length:Int) (i:Int) (.agg [.int .i64 k1,.str s1,.str r1,.int .i64 v1,a1,b1,.int .i64 q1]) (gput g' (gnew g0 ds).boxes.length 0 x) Qf):=by
     intro hnm
     rw[hnm] at hE
     refine binds_ok hx (by omega) (by omega) λv z g' hv hz ez hk=>⟨z,hz,hv,?_⟩
     have z1:z.one=true:=by cases hz.sl_inv undStrs with
      |inl h=>rw[h];rfl
      |inr h=>obtain⟨m,xs,h|⟨k,h⟩,_⟩:=h<;>rw[h]<;>rfl
     have p6':g'.boxes[(gnew g0 ds).boxes.length]?=some (.cells [.d .nil]):=by rw[hk.boxes];exact p6
     obtain⟨w1,w2⟩:=gput_one p6' z1
     refine⟨w1,?_⟩
     rw[w2]
     have ko:OneBox (gnew g0 ds).boxes.length g' {g' with boxes:=g'.boxes.set (gnew g0 ds).boxes.length (.cells [.d z])}:=⟨_,rfl⟩
     have kk:Kp [(gnew g0 ds).boxes.length] g0.toks.length G {g' with boxes:=g'.boxes.set (gnew g0 ds).boxes.length (.cells [.d z])}:=(hk.kp.le (λj hj=>by cases hj) (by rw[tG];exact Nat.le_refl _)).trans (boxKp ko _)
     exact K13 kk (by simp only;rw[List.getElem?_set_self (List.getElem?_eq_some_iff.1 p6').1]) hz ez (bindsOf_len ..) hE
    refine w81_10 ?_
    show Br (k1==7) (Br (decide (0<(i:Int))) _ _) _
    rw[natP]
    refine Br_iff.2 ⟨λq7=>Br_iff.2 ⟨λq0=>?_,λq0=>KB (by unfold namesAt;rw[q7,q0];rfl)⟩,λq7=>KB (by unfold namesAt;rw[q7];rfl)⟩
    have c0:=of_decide_eq_true q0
    have h7:(k1==7)=true:=q7
    have hla:=e3.1
    rw[beq_iff_eq.1 h7] at hla
    have hla:=okEx_case hla
    have ci:i≤(elsOf b1).length:=by omega
    obtain⟨z1,z2⟩:=patAt c0 ci (by omega)
    refine⟨p,0,gokD undSp sizeSp rfl h2G rfl,z1,?_⟩
    show EvF TT 149 [.ptr (some (p,0)),getE (elsOf b1) (IntKind.i64.wrap ((i:Int)-1)),_] G _
    rw[z2]
    have hnm:namesAt l k1 s1 r1 ((elsOf b1).map absPt) i=patF l (absPt ((elsOf b1)[i-1]'(by omega))) []:=by
     unfold namesAt
     rw[h7,q0,List.getElem?_map,List.getElem?_eq_getElem (by omega)]
     rfl
    rw[hnm] at hE
    have hmp:szPt (absPt ((elsOf b1)[i-1]'(by omega)))≤szPts ((elsOf b1).map absPt):=szPts_mem (i:=i-1) (by rw[List.getElem?_map,List.getElem?_eq_getElem (by omega)];rfl)
    refine pat_ok (b:=g0.toks.length) _ (Nat.lt_succ_self _) (eu.2 _ (List.getElem_mem _)) hD hbG p6 (Gr.nil _ _) (by rw[tG];exact Nat.le_refl _) (λs h=>by cases h) (by simp only[List.length_nil];omega) ?_
    cases hr:patF l (absPt ((elsOf b1)[i-1]'(by omega))) [] with
    |bad q=>
     rw[hr] at hE
     exact λg' k'=>hE g' (kG'.newK k' (by omega) hbt)
    |ok ns=>
     rw[hr] at hE
     intro g' X' x1 x2 x3 k'
     have hl:=patF_len l _ _ _ hr
     simp only[List.length_nil] at hl
     exact⟨trivial,K13 k' x1 (x2.ty (by omega) x3) x2.els (by omega) hE⟩
  refine w81 hx ?_
  have k1g:Kp [] g.toks.length g (gnew g [Dat.ptr (some (p,0))]):=kp_gnew _ _ _
  have h2:=gnew_get g [Dat.ptr (some (p,0))]
  have hb1:ScBox (gnew g [Dat.ptr (some (p,0))]) p mb D:=k1g.at hb (by simp)
  have hm1:MapIs true (gnew g [Dat.ptr (some (p,0))]) mb (cntF (cB bd)):=hm.other (k1g.box mb hm.lt (by simp)) (j:=0)
  have kk:Kp [mb] b g (gnew g [Dat.ptr (some (p,0))]):=k1g.le (λj hj=>by cases hj) hbt
  have fin:EEnd b mb bd g Qf (exprFs l (namesAt l k1 s1 r1 ((elsOf b1).map absPt)) (((elsOf a1).drop 0).map absEx) 0 bd)→L81_7 g.boxes.length a1 ((elsOf a1).length:Int) 0 (.agg [.int .i64 k1,.str s1,.str r1,.int .i64 v1,a1,b1,.int .i64 q1]) (gnew g [Dat.ptr (some (p,0))]) Qf:=
   λhE=>L7 0 (Nat.zero_le _) h2 hb1 hm1 hbt (hE.later kk)
  show Br (k1==1) _ (Br (k1==8) _ _)
  refine Br_iff.2 ⟨λq=>?_,λq=>Br_iff.2 ⟨λq2=>?_,λq2=>?_⟩⟩
  ·have hl1:=hm1.mlook (z:=.int .i64 0) (strKey s1)
   rw[cntF_get] at hl1
   refine⟨p,0,gokD undSp sizeSp rfl h2 rfl,mb,hb1.map,_,_,hl1,?_⟩
   rw[cB_pos]
   rw[q] at hE
   have q8:(k1==8)=false:=by
    have:k1=1:=beq_iff_eq.1 q
    rw[this];rfl
   refine want_ok (λh=>?_) λh=>⟨trivial,?_⟩
   ·have h:bd.contains s1=false:=h
    rw[h] at hE
    exact hE _ kk
   ·have h:bd.contains s1=true:=h
    rw[h,q8] at hE
    exact fin hE
  ·rw[q,q2] at hE
   refine⟨p,0,gokD undSp sizeSp rfl h2 rfl,con_ok hD hb1 hs1 (λh=>⟨trivial,?_⟩) λh=>?_⟩
   ·have h:conOk l s1 (elsOf a1).length=true:=h
    rw[h] at hE
    exact fin hE
   ·have h:conOk l s1 (elsOf a1).length=false:=h
    rw[h] at hE
    exact hE _ kk
  ·rw[q,q2] at hE
   exact fin hE
end Go.Proofs.YtgmapdcdmomioaaGreatDoor.Pa
namespace Go.Proofs.YtgmapdcdmomioaaGreatDoor.Pa
open Go Go.Proofs.YtgmapdcdmomioaaGreatDoor.Am
noncomputable def c79:Code:=match recovers (bodyOf Tryz.f79) with|some (_,c)=>c|none=>.skip
theorem df79None{p0:Nat}{g:Glob}{K:Option Dat→Glob→Prop}(h:K none g):EvL TT [(79,[.ptr (some (p0,0))])] none g K:=
 sx_def (rk:=rk) (fn:=Tryz.f79) (c':=c79) (loops:=[]) (joins:=[]) (n:=100000) (d:=4) (t:=20) (args:=[(0,.ptr (some (p0,0)))]) rfl rfl (by kernel_rfl) (Nat.le_of_ble_eq_true (by kernel_rfl)) (by kernel_rfl) rfl
  ⟨.ptr _ _ (by kernel_rfl),trivial⟩ (.nilIface _ (by kernel_rfl)) (cast (by kernel_rfl) h)
theorem faultTy2{c p:Int}:HasTy TT 106 (.agg [.int .i64 c,.int .i64 p]):=struct_of (tys:=[30,3]) (by kernel_rfl) (by kernel_rfl) (by kernel_rfl) ⟨tyInt (by kernel_rfl),ty_int,trivial⟩
theorem ty_fault{c p:Int}:HasTy TT 49 (.agg [.int .i64 c,.int .i64 p]):=struct_of (tys:=[30,3]) (by kernel_rfl) (by kernel_rfl) (by kernel_rfl) ⟨tyInt (by kernel_rfl),ty_int,trivial⟩
theorem df79Some{p0:Nat}{c p:Int}{g:Glob}{K:Option Dat→Glob→Prop}(h:GPut g p0 0 2∧K none (gput g p0 0 (.agg [.int .i64 c,.int .i64 p]))):EvL TT [(79,[.ptr (some (p0,0))])] (some (fltD c p)) g K:=
 sx_def (rk:=rk) (fn:=Tryz.f79) (c':=c79) (loops:=[]) (joins:=[]) (n:=100000) (d:=4) (t:=20) (args:=[(0,.ptr (some (p0,0)))]) rfl rfl (by kernel_rfl) (Nat.le_of_ble_eq_true (by kernel_rfl)) (by kernel_rfl) rfl
  ⟨.ptr _ _ (by kernel_rfl),trivial⟩ (.iface _ _ _ (by kernel_rfl) faultTy2) (cast (by kernel_rfl) h)
theorem undFault:∃d,TT.und 49=some d∧isAggD d=true:=isAgg_und (by kernel_rfl)
theorem sizeFault:TT.size 49=some 2:=by kernel_rfl
theorem gload_agg{g:Glob}{i n:Nat}{ds:List Dat}{t:TypeId}{d:TypeDesc}(hu:TT.und t=some d)(hs:TT.size t=some n)(ha:isAggD d=true)(hb:g.boxes[i]?=some (.cells (ds.map .d)))(hn:ds.length=n):gload TT t g i 0=some (.d (.agg ds)):=by
 have hm:optAll ((ds.map GVal.d).map λx=>Val.isD x.v)=some ds:=by
  rw[List.map_map]
  have:((λx=>Val.isD x.v)∘GVal.d)=(some:Dat→Option Dat):=rfl
  rw[this]
  clear hb hn
  induction ds with
  |nil=>rfl
  |cons x ds ih=>simp only[List.map_cons,optAll,ih]
 simp only[gload,hb,loadV,hu,hs,ha,if_true,List.drop_zero,List.length_map]
 rw[if_pos (by omega),List.take_of_length_le (by simp;omega)]
 unfold mkAgg
 rw[List.map_map]
 have e:(Val.isD∘GVal.v)=λx:GVal=>Val.isD x.v:=rfl
 rw[e,hm]
theorem pin_fault{g:Glob}{p0:Nat}{c p:Int}(hb:g.boxes[p0]?=some (.cells ([Dat.int .i64 c,.int .i64 p].map .d))):pinVal TT [(49,p0,0)] g=some (.d (.agg [.int .i64 c,.int .i64 p])):=by
 obtain⟨d,h1,h2⟩:=undFault
 simp only[pinVal,List.map_cons,List.map_nil,gload_agg h1 sizeFault h2 hb rfl,optAll,Val.toD,Option.map_some]
theorem defSome{g:Glob}{p0:Nat}{cs:List GVal}{c p:Int}{Qf:OGP}(hb:g.boxes[p0]?=some (.cells cs))(hl:cs.length=2)(hQ:∀g',Qf (.val (.d (.agg [.int .i64 c,.int .i64 p]))) g'):DefQ TT [(79,[.ptr (some (p0,0))])] [(49,p0,0)] (some (fltD c p)) g Qf:=by
 obtain⟨w1,w2⟩:=gput_all (ds:=[.int .i64 c,.int .i64 p]) hb hl rfl
 refine df79Some ⟨w1,?_⟩
 rw[w2]
 exact⟨_,pin_fault (by simp only;rw[List.getElem?_set_self (List.getElem?_eq_some_iff.1 hb).1]),hQ _⟩
theorem defNone{g:Glob}{p0:Nat}{cs:List GVal}{c p:Int}{Qf:OGP}(hb:g.boxes[p0]?=some (.cells cs))(hl:cs.length=2)(hQ:∀g',Qf (.val (.d (.agg [.int .i64 c,.int .i64 p]))) g'):
 GPut g p0 0 2∧DefQ TT [(79,[.ptr (some (p0,0))])] [(49,p0,0)] none (gput g p0 0 (.agg [.int .i64 c,.int .i64 p])) Qf:=by
 obtain⟨w1,w2⟩:=gput_all (ds:=[.int .i64 c,.int .i64 p]) hb hl rfl
 refine⟨w1,?_⟩
 rw[w2]
 exact df79None ⟨_,pin_fault (by simp only;rw[List.getElem?_set_self (List.getElem?_eq_some_iff.1 hb).1]),hQ _⟩
theorem rCheck_facts{P:Pg}(h:rCheckP P=true):P.ds.length≤32∧szEx P.e≤2048∧okEx P.e=true∧∀d∈P.ds,d.cs.length≤32:=by
 unfold rCheckP at h
 simp only[Bool.and_eq_true,Bool.not_eq_true'] at h
 obtain⟨h1,h2,h3,_,h5⟩:=h
 refine⟨?_,?_,h5,λd hd=>?_⟩
 ·have:¬(32:Int)<P.ds.length:=by simpa[gtI] using h1
  omega
 ·have:¬(2048:Int)<upto 0 (szEx P.e):=by simpa[gtI] using h2
  unfold upto at this
  repeat' split at this
  all_goals omega
 ·have:=(List.all_eq_true.1 h3) d hd
  rw[rDc_eq] at this
  simp only[Bool.and_eq_true,Bool.not_eq_true'] at this
  have:=this.2.2.1
  have:¬(32:Int)<d.cs.length:=by simpa[gtI] using this
  omega
theorem allDc_len(P:Pg):(allDc P).length=3+P.ds.length:=by
 show(baseL.map absDc++P.ds).length=_
 rw[List.length_append]
 rfl
theorem scopeCheck_ok{x:Dat}{g:Glob}{Qf:OGP}(hx:HasTy TT 29 x)(hp:Pre (absPg x))(hQ:∀g',Qf (.val (.d (.agg [.int .i64 (chk14 (absPg x)).1,.int .i64 (chk14 (absPg x)).2]))) g'):EvF TT 29 [x] g Qf:=by
 refine w29 hx (parseCheck_ok hx hp ⟨_,rfl,?_⟩)
 rw[checkP_eq]
 have hb:=gnew_get g [Dat.int IntKind.i64 0,Dat.int IntKind.i64 0]
 unfold chk14 at hQ
 refine Br_iff.2 ⟨λq=>?_,λq=>?_⟩
 ·have q:rCheckP (absPg x)=false:=by simpa using q
  rw[q] at hQ
  have hQ:∀g',Qf (.val (.d (.agg [.int .i64 1,.int .i64 0]))) g':=hQ
  obtain⟨w1,w2⟩:=gput_all (ds:=[Dat.int IntKind.i64 1,Dat.int IntKind.i64 0]) hb rfl rfl
  refine⟨w1,_,ty_fault,?_,hQ _⟩
  obtain⟨d,h1,h2⟩:=undFault
  rw[w2]
  exact gok_agg h1 sizeFault h2 (by simp only;rw[List.getElem?_set_self (List.getElem?_eq_some_iff.1 hb).1]) rfl
 have q:rCheckP (absPg x)=true:=by simpa using q
 rw[q] at hQ
 obtain⟨f1,f2,f3,f4⟩:=rCheck_facts q
 generalize hg1:gnew g [Dat.int IntKind.i64 0,Dat.int IntKind.i64 0]=g1 at hb⊢
 have hl1:g.boxes.length<g1.boxes.length:=by rw[←hg1,gnew_len];omega
 refine scopeAll_ok x g1 hx (by omega) _ λD hD hDl v hv=>⟨D,hD,hv,?_⟩
 have dl:DL D (allDc (absPg x)):=⟨hD,hDl⟩
 generalize hG:gnew (gmnew g1) [D,Dat.map (some g1.boxes.length)]=G
 have kG:Kp [] g1.toks.length g1 G:=by rw[←hG];exact(kp_gmnew _ _).trans (kp_gnew _ _ _)
 have bxG:ScBox G (gmnew g1).boxes.length g1.boxes.length D:=by
  have:=gnew_get (gmnew g1) [D,Dat.map (some g1.boxes.length)]
  rw[hG] at this
  exact this
 have hbG:=kG.at hb (by simp)
 have mG:MapIs true G g1.boxes.length (cntF (cB [])):=by
  have e0:(λ_:Dat=>(none:Option Dat))=cntF (cB []):=by funext k;cases k<;>simp[cntF,cB]
  have mn:=mapIs_new true g1
  rw[e0] at mn
  refine mn.other ?_ (j:=0)
  rw[←hG]
  exact gnew_old _ (by rw[gmnew_len];omega)
 have flt:∀{c q:Int} {g':Glob},Kp [g1.boxes.length] G.toks.length G g'→(∀g',Qf (.val (.d (.agg [.int .i64 c,.int .i64 q]))) g')→DefQ TT [(79,[.ptr (some (g.boxes.length,0))])] [(49,g.boxes.length,0)] (some (fltD c q)) g' Qf:=
  λk h=>defSome (k.at hbG (by simp;omega)) rfl h
 have up:∀{g'},Kp [] G.toks.length G g'→Kp [g1.boxes.length] G.toks.length G g':=λk=>k.le (λj hj=>by cases hj) (Nat.le_refl _)
 unfold chkNames at hQ
 refine declared_ok (l:=allDc (absPg x)) dl bxG (by rw[allDc_len];omega) (λd hd=>?_) ?_
 ·rcases List.mem_append.1 (show d∈baseL.map absDc++(absPg x).ds from hd) with h|h
  ·have:∀d∈baseL.map absDc,d.cs.length≤32:=by decide
   have:=this d h
   omega
  ·have:=f4 d h
   omega
 rw[pBad_all,firstTy_all]
 cases e1:firstBad (baseL.map absDc) (absPg x).ds with
 |some q=>
  rw[e1] at hQ
  have hQ:∀g',Qf (.val (.d (.agg [.int .i64 141,.int .i64 q]))) g':=hQ
  exact λg' k=>flt (up k) hQ
 |none=>
  rw[e1] at hQ
  simp only at hQ⊢
  cases e2:firstTy (allDc (absPg x)) (absPg x).ds with
  |some q=>
   rw[e2] at hQ
   have hQ:∀g',Qf (.val (.d (.agg [.int .i64 141,.int .i64 q]))) g':=hQ
   exact λg' k=>flt (up k) hQ
  |none=>
   rw[e2] at hQ
   simp only at hQ
   intro g' k
   refine⟨trivial,?_⟩
   obtain⟨d1,k1,s1,r1,n1,a1,b1,p1,rfl,hd1,he1⟩:=prog_ty hx
   have ee:(absPg (.agg [d1,.int .i64 k1,.str s1,.str r1,.int .i64 n1,a1,b1,.int .i64 p1])).e=absEx (.agg [.int .i64 k1,.str s1,.str r1,.int .i64 n1,a1,b1,.int .i64 p1]):=rfl
   rw[ee] at hQ f2 f3
   show EvF TT 81 [_,.agg [.int .i64 k1,.str s1,.str r1,.int .i64 n1,a1,b1,.int .i64 p1]] g' _
   refine expr_ok (b:=G.toks.length) (l:=allDc (absPg (.agg [d1,.int .i64 k1,.str s1,.str r1,.int .i64 n1,a1,b1,.int .i64 p1]))) (bd:=[]) _ (Nat.lt_succ_self _) he1 f3 dl (k.at bxG (by simp)) (mG.other (k.box _ mG.lt (by simp)) (j:=0)) k.tlen (by simp only[List.length_nil];omega) ?_
   cases e3:exprF (allDc (absPg (.agg [d1,.int .i64 k1,.str s1,.str r1,.int .i64 n1,a1,b1,.int .i64 p1]))) (absEx (.agg [.int .i64 k1,.str s1,.str r1,.int .i64 n1,a1,b1,.int .i64 p1])) [] with
   |some q=>
    rw[e3] at hQ
    have hQ:∀g',Qf (.val (.d (.agg [.int .i64 140,.int .i64 q]))) g':=hQ
    exact λg2 k2=>flt ((up k).trans k2) hQ
   |none=>
    rw[e3] at hQ
    have hQ:∀g',Qf (.val (.d (.agg [.int .i64 0,.int .i64 0]))) g':=hQ
    intro g2 k2 _
    exact⟨trivial,defNone (((up k).trans k2).at hbG (by simp;omega)) rfl hQ⟩
end Go.Proofs.YtgmapdcdmomioaaGreatDoor.Pa
