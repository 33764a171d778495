/- Scope: the document's Check. Scope: the document's look at expressions; its Check. Scope: the document's look at expressions. Scope: the document's Check; both agree. -/
import Derived.Test.YtiheejdkkjfenaaGreatDoorSD
set_option linter.all false
set_option autoImplicit false
set_option maxRecDepth 100000
namespace Go.Proofs.YtiheejdkkjfenaaGreatDoor.Pa
open Go Go.Proofs.YtiheejdkkjfenaaGreatDoor.Am
theorem decl14_ok{D:Dat}{l:List Dc}{s:Str}{g:Glob}{Qf:OGP}(hD:DL D l)(hs:s.length≤2^40)(hQ:Qf (.val (.d (.int .i64 (declIx s l 0)))) g):EvF TT 56 [D,.str s] g Qf:=by
 have exl:=len_le undDecls hD.ty
 refine w56 hD.ty hs ?_
 have e:l=((elsOf D).drop 0).map absDc:=by rw[List.drop_zero,hD.abs]
 rw[e] at hQ
 refine loopUp (len:=(elsOf D).length) (λi=>Qf (.val (.d (.int .i64 (declIx s (((elsOf D).drop i).map absDc) (i:Int))))) g→L56_2 D s (i:Int) g Qf) ?_ ?_ 0 (Nat.zero_le _) hQ
 ·intro hQ
  refine w56_2 ?_
  rw[Br_ge]
  rw[List.drop_length] at hQ
  exact hQ
 ·intro i hi ih hQ
  refine w56_2 ?_
  rw[Br_lt hi,getE_nat hi]
  rw[List.drop_eq_getElem_cons hi,List.map_cons] at hQ
  unfold declIx at hQ
  obtain⟨s2,a2,b2,q2,e,_⟩:=decl_ty ((hD.ty.els undDecls).2 _ (List.getElem_mem hi))
  rw[e] at hQ⊢
  have hQ:Qf (.val (.d (.int .i64 (bif s2==s then(i:Int) else declIx s (((elsOf D).drop (i+1)).map absDc) ((i:Int)+1))))) g:=hQ
  refine⟨inB hi,Br_iff.2 ⟨λq=>?_,λq=>?_⟩⟩
  ·have q:(s2==s)=true:=q
   rw[q] at hQ
   exact hQ
  ·have q:(s2==s)=false:=q
   rw[q] at hQ
   rw[wrap_nat (by omega)]
   exact ih hQ
theorem declIx_any(s:Str)(l:List Dc):decide (0≤declIx s l 0)=l.any (λe=>e.s==s):=by
 have h:(dcPs s l).isSome=l.any (λe=>e.s==s):=by
  induction l with
  |nil=>rfl
  |cons d l ih=>
   rw[List.any_cons,←ih]
   cases q:d.s==s<;>simp[dcPs,q]
 rw[←h]
 rcases declIx_spec s l 0 with ⟨k,d,e,_,hp⟩|⟨e,hp⟩
 ·have e:declIx s l 0=((0+k:Nat):Int):=e
  rw[e,hp]
  exact decide_eq_true (by omega)
 ·have e:declIx s l 0=-1:=e
  rw[e,hp]
  rfl
theorem findDc_any(s:Str)(l:List Dc):(findDc s l 0).2.2=(dcFs s l).isSome:=by
 rcases findDc_spec s l 0 with ⟨i,j,d,c,e,_,_,hf⟩|⟨e,hf⟩<;>rw[e,hf]<;>rfl
theorem subDecls{D:Dat}{l:List Dc}{i:Nat}(hD:DL D l)(hi:i≤l.length):DL (slSub 4 D (elsOf D) 0 (i:Int)) (l.take i):=by
 unfold slSub
 split
 ·rename_i h
  have:i=l.length:=by have:=h.2;rw[hD.len] at this;omega
  subst this
  rw[List.take_length]
  exact hD
 ·have e:((elsOf D).take (i:Int).toNat).drop (0:Int).toNat=(elsOf D).take i:=by
   rw[Int.toNat_natCast,show(0:Int).toNat=0 from rfl,List.drop_zero]
  rw[e]
  have ed:=hD.ty.els undDecls
  exact⟨.sl _ _ _ _ undDecls szDecl (ed.1.le (by rw[List.length_take];omega)) λy hy=>ed.2 y (List.mem_of_mem_take hy),by rw[←hD.abs];exact List.map_take ..⟩
theorem twice_ok{D:Dat}{l:List Dc}{i:Nat}{g:Glob}{Qf:OGP}(hD:DL D l)(hi:i<l.length)(hQ:Qf (.val (.d (.bool (declBad (l.take i) l[i])))) g):EvF TT 53 [D,.int .i64 i] g Qf:=by
 have exl:=len_le undDecls hD.ty
 have hlen:=hD.len
 obtain⟨s2,a2,b2,q2,eg,hs2,ha2,hb2,el⟩:=hD.get hi
 refine w53 hD.ty ?_
 rw[eg]
 refine⟨by rw[hlen];exact inB hi,?_⟩
 rw[el] at hQ
 unfold declBad at hQ
 simp only at hQ
 have hins:InS 0 (i:Int) (elsOf D).length:=⟨Int.le_refl _,by omega,by omega⟩
 have hsub:=subDecls hD (Nat.le_of_lt hi)
 show Br (s2==sInt) _ _
 refine Br_iff.2 ⟨λq=>?_,λq=>⟨hins,decl14_ok (s:=s2) hsub hs2 ⟨_,rfl,?_⟩⟩⟩
 ·rw[q] at hQ;exact hQ
 rw[declIx_any]
 rw[q] at hQ
 refine Br_iff.2 ⟨λq3=>?_,λq3=>?_⟩
 all_goals replace q3:((l.take i).any λe=>e.s==s2)=_:=q3
 ·rw[q3] at hQ;exact hQ
 rw[q3] at hQ
 have hps:elsOf a2=((elsOf a2).map strOf).map .str:=strEls ha2
 generalize hpl:(elsOf a2).map strOf=ps at hQ hps
 have eal:=elsLen hps
 have npl:ps.length≤2^40:=by have:=(ha2.els undStrs).1.1;omega
 have sps:=free_strs' ha2 hps
 have eb:=hb2.els undCons
 have ebl:=eb.1.1
 simp only[Bool.false_or] at hQ
 -- constructors
 have third:Qf (.val (.d (.bool (consBad (l.take i) [] ((elsOf b2).map absCn))))) g→L53_10 D (i:Int) 0 (.agg [.str s2,a2,b2,.int .i64 q2]) g Qf:=by
  intro hQ
  have hQ:Qf (.val (.d (.bool (consBad (l.take i) (((elsOf b2).take 0).map λc=>(absCn c).s) (((elsOf b2).drop 0).map absCn))))) g:=by rw[List.drop_zero];exact hQ
  refine loopUp (len:=(elsOf b2).length) (λj=>Qf (.val (.d (.bool (consBad (l.take i) (((elsOf b2).take j).map λc=>(absCn c).s) (((elsOf b2).drop j).map absCn))))) g→L53_10 D (i:Int) (j:Int) (.agg [.str s2,a2,b2,.int .i64 q2]) g Qf) ?_ ?_ 0 (Nat.zero_le _) hQ
  ·intro hQ
   refine w53_10 ?_
   rw[show(fld (Dat.agg [.str s2,a2,b2,.int .i64 q2]) 2)=b2 from rfl,Br_ge]
   rw[List.drop_length] at hQ
   exact hQ
  ·intro j hj ihj hQ
   refine w53_10 ?_
   rw[show(fld (Dat.agg [.str s2,a2,b2,.int .i64 q2]) 2)=b2 from rfl,Br_lt hj,getE_nat hj]
   rw[List.drop_eq_getElem_cons hj,List.map_cons] at hQ
   unfold consBad at hQ
   obtain⟨t3,f3,e3,ht3,tf3⟩:=con_ty (eb.2 _ (List.getElem_mem hj))
   have es:(absCn (elsOf b2)[j]).s=t3:=by rw[e3];rfl
   rw[es] at hQ
   have hnext:((elsOf b2).take j).map (λc=>(absCn c).s)++[t3]=((elsOf b2).take (j+1)).map λc=>(absCn c).s:=by
    rw[List.take_succ_eq_append_getElem hj,List.map_append,←es];rfl
   rw[hnext] at hQ
   refine⟨hins,inB hj,?_⟩
   have e4:strOf (fld (elsOf b2)[j] 0)=t3:=by rw[e3];rfl
   rw[e4]
   refine r14Find_ok _ t3 g hsub.ty ht3 _ ⟨_,_,_,⟨rfl,rfl,rfl,trivial⟩,?_⟩
   rw[hsub.abs,findDc_any]
   refine Br_iff.2 ⟨λq5=>?_,λq5=>?_⟩
   ·rw[q5] at hQ;exact hQ
   rw[q5,Bool.false_or] at hQ
   -- those ahead in it
   have hQ:Qf (.val (.d (.bool (((((elsOf b2).take j).drop 0).map λc=>(absCn c).s).contains t3||consBad (l.take i) (((elsOf b2).take (j+1)).map λc=>(absCn c).s) (((elsOf b2).drop (j+1)).map absCn))))) g:=by
    rw[List.drop_zero];exact hQ
   refine loopUp (len:=j) (λk=>Qf (.val (.d (.bool (((((elsOf b2).take j).drop k).map λc=>(absCn c).s).contains t3||consBad (l.take i) (((elsOf b2).take (j+1)).map λc=>(absCn c).s) (((elsOf b2).drop (j+1)).map absCn))))) g→
    L53_16 D (i:Int) (j:Int) (k:Int) (.agg [.str s2,a2,b2,.int .i64 q2]) g Qf) ?_ ?_ 0 (Nat.zero_le _) hQ
   ·intro hQ
    refine w53_16 ?_
    rw[Br_ge,wrap_nat (by omega)]
    have:((elsOf b2).take j).drop j=[]:=by rw[List.drop_eq_nil_iff,List.length_take];omega
    rw[this] at hQ
    exact ihj hQ
   ·intro k hk ihk hQ
    refine w53_16 ?_
    rw[show(fld (Dat.agg [.str s2,a2,b2,.int .i64 q2]) 2)=b2 from rfl,Br_lt hk,getE_nat (by omega),getE_nat hj,e4]
    have hk':k<((elsOf b2).take j).length:=by rw[List.length_take];omega
    rw[List.drop_eq_getElem_cons hk',List.map_cons,List.contains_cons] at hQ
    obtain⟨t6,f6,e6,_⟩:=con_ty (eb.2 _ (List.getElem_mem (show k<(elsOf b2).length by omega)))
    have e7:(absCn ((elsOf b2).take j)[k]).s=t6:=by rw[List.getElem_take,e6];rfl
    rw[e7,beq_sym t3 t6] at hQ
    refine⟨inB (by omega),inB hj,?_⟩
    rw[show strOf (fld (elsOf b2)[k] 0)=t6 from by rw[e6];rfl]
    refine Br_iff.2 ⟨λq8=>?_,λq8=>?_⟩
    ·rw[q8] at hQ;exact hQ
    ·rw[q8,Bool.false_or] at hQ
     rw[wrap_nat (by omega)]
     exact ihk hQ
 -- parameters
 have hQ:Qf (.val (.d (.bool (dupS (ps.take 0) (ps.drop 0)||consBad (l.take i) [] ((elsOf b2).map absCn))))) g:=hQ
 refine loopUp (len:=ps.length) (λj=>Qf (.val (.d (.bool (dupS (ps.take j) (ps.drop j)||consBad (l.take i) [] ((elsOf b2).map absCn))))) g→L53_5 D (i:Int) (j:Int) (.agg [.str s2,a2,b2,.int .i64 q2]) g Qf) ?_ ?_ 0 (Nat.zero_le _) hQ
 ·intro hQ
  refine w53_5 ?_
  rw[show(fld (Dat.agg [.str s2,a2,b2,.int .i64 q2]) 1)=a2 from rfl,eal,Br_ge]
  rw[List.drop_length] at hQ
  exact third hQ
 ·intro j hj ihj hQ
  refine w53_5 ?_
  rw[show(fld (Dat.agg [.str s2,a2,b2,.int .i64 q2]) 1)=a2 from rfl,eal,Br_lt hj,strAt hps hj]
  rw[List.drop_eq_getElem_cons hj] at hQ
  unfold dupS at hQ
  obtain⟨u1,u2⟩:=subTake ha2 hps (Nat.le_of_lt hj)
  refine⟨⟨Int.le_refl _,by omega,by omega⟩,inB hj,among_ok u1 u2 (sps _ (List.getElem_mem hj)) ⟨_,rfl,Br_iff.2 ⟨λq=>?_,λq=>?_⟩⟩⟩
  ·rw[q] at hQ;exact hQ
  ·rw[q,Bool.false_or,←List.take_succ_eq_append_getElem hj] at hQ
   rw[wrap_nat (by omega)]
   exact ihj hQ
theorem field_ok:∀(n:Nat) {x A D:Dat} {l:List Dc} {ps:List Str} {g:Glob} {Qf:OGP},SizeOf.sizeOf x<n→HasTy TT 61 x→HasTy TT 82 A→elsOf A=ps.map .str→DL D l→Qf (.val (.d (.bool (typedT l ps (absTy x))))) g→EvF TT 54 [D,A,x] g Qf
 |0,x,A,D,l,ps,g,Qf,hsz,_,_,_,_,_=>by omega
 |n+1,x,A,D,l,ps,g,Qf,hsz,hx,hA,eA,hD,hQ=>by
  obtain⟨k1,s1,v1,a1,rfl,hs1,t1⟩:=type_ty hx
  have ex:=t1.els undTypes
  have exl:=ex.1.1
  have hc:=sizeOf_cell (cs:=[.int .i64 k1,.str s1,.int .i64 v1,a1]) (c:=a1) (by simp)
  have e1:typedT l ps (absTy (.agg [.int .i64 k1,.str s1,.int .i64 v1,a1]))=(bif k1==2 then ps.contains s1 else bif k1==4 then(match dcPs s1 l with|none=>false|some m=>m==(elsOf a1).length&&typedTs l ps (((elsOf a1).drop 0).map absTy)) else typedTs l ps (((elsOf a1).drop 0).map absTy)):=by
   simp only[absTy,typedT,absTyA_map,List.length_map,List.drop_zero]
   rfl
  rw[e1] at hQ
  have loop:Qf (.val (.d (.bool (typedTs l ps (((elsOf a1).drop 0).map absTy))))) g→L54_9 D A 0 (.agg [.int .i64 k1,.str s1,.int .i64 v1,a1]) g Qf:=by
   intro hQ
   refine loopUp (len:=(elsOf a1).length) (λi=>Qf (.val (.d (.bool (typedTs l ps (((elsOf a1).drop i).map absTy))))) g→L54_9 D A (i:Int) (.agg [.int .i64 k1,.str s1,.int .i64 v1,a1]) g Qf) ?_ ?_ 0 (Nat.zero_le _) hQ
   ·intro hQ
    refine w54_9 ?_
    rw[show(fld (Dat.agg [.int .i64 k1,.str s1,.int .i64 v1,a1]) 3)=a1 from rfl,Br_ge]
    rw[List.drop_length] at hQ
    exact hQ
   ·intro i hi ih hQ
    refine w54_9 ?_
    rw[show(fld (Dat.agg [.int .i64 k1,.str s1,.int .i64 v1,a1]) 3)=a1 from rfl,Br_lt hi,getE_nat hi]
    rw[List.drop_eq_getElem_cons hi,List.map_cons] at hQ
    unfold typedTs at hQ
    have hsz':=sizeOf_el hi
    refine⟨inB hi,field_ok n (by omega) (ex.2 _ (List.getElem_mem hi)) hA eA hD ⟨_,rfl,Br_iff.2 ⟨λq=>?_,λq=>?_⟩⟩⟩
    ·have q:typedT l ps (absTy (elsOf a1)[i])=false:=by simpa using q
     rw[q] at hQ;exact hQ
    ·have q:typedT l ps (absTy (elsOf a1)[i])=true:=by simpa using q
     rw[q,Bool.true_and] at hQ
     rw[wrap_nat (by omega)]
     exact ih hQ
  refine w54 hD.ty hA hx ?_
  show Br (k1==2) _ (Br (k1==4) _ _)
  refine Br_iff.2 ⟨λq=>among_ok hA eA hs1 ⟨_,rfl,?_⟩,λq=>Br_iff.2 ⟨λq2=>decl14_ok (s:=s1) hD hs1 ⟨_,rfl,?_⟩,λq2=>loop ?_⟩⟩
  ·rw[q] at hQ;exact hQ
  ·rw[q,q2] at hQ
   rcases declIx_spec s1 l 0 with ⟨i,d',e',hi,hp⟩|⟨e',hp⟩
   ·rw[hp] at hQ
    have e':declIx s1 l 0=((0+i:Nat):Int):=e'
    rw[Nat.zero_add] at e'
    rw[e']
    have hlt:i<l.length:=(List.getElem?_eq_some_iff.1 hi).1
    obtain⟨s4,a4,b4',p4,eg,_,ha4,_,el⟩:=hD.get hlt
    refine brF (by simp) ⟨by rw[hD.len];exact inB hlt,?_⟩
    rw[eg]
    have hl4:d'.ps.length=(elsOf a4).length:=by
     rw[List.getElem?_eq_getElem hlt] at hi
     cases hi
     rw[el]
     simp
    simp only[cond_true,cond_false,hl4] at hQ
    show Br (((elsOf a4).length:Int)!=((elsOf a1).length:Int)) _ _
    refine Br_iff.2 ⟨λq5=>?_,λq5=>loop ?_⟩
    ·have:((elsOf a4).length==(elsOf a1).length)=false:=by
      rw[beq_eq_false_iff_ne]
      intro e
      rw[e] at q5
      simp at q5
     rw[this] at hQ
     exact hQ
    ·have:((elsOf a4).length==(elsOf a1).length)=true:=by
      have:((elsOf a4).length:Int)=(elsOf a1).length:=by simpa using q5
      rw[beq_iff_eq]
      omega
     rw[this] at hQ
     exact hQ
   ·rw[hp] at hQ
    have e':declIx s1 l 0=-1:=e'
    rw[e']
    exact brT (by decide) hQ
  ·rw[q,q2] at hQ;exact hQ
end Go.Proofs.YtiheejdkkjfenaaGreatDoor.Pa
namespace Go.Proofs.YtiheejdkkjfenaaGreatDoor.Pa
open Go Go.Proofs.YtiheejdkkjfenaaGreatDoor.Am
theorem gput_at{g:Glob}{i o:Nat}{cs:List GVal}{x:Dat}(hb:g.boxes[i]?=some (.cells cs))(ho:o<cs.length)(h1:x.one=true):GPut g i o 1∧gput g i o x={g with boxes:=g.boxes.set i (.cells (cs.set o (.d x)))}:=by
 refine⟨⟨_,hb,by omega⟩,?_⟩
 have hc:x.cells=[x]:=by cases x<;>first|rfl|cases h1
 unfold gput
 rw[hb,hc]
 rfl
def LkBox(g:Glob)(p:Nat)(D:Dat)(a c:Int):Prop:=g.boxes[p]?=some (.cells [.d D,.d (.int .i64 a),.d (.int .i64 c)])
def LkR(g:Glob)(p:Nat)(D:Dat):Option Int→Prop
 |some q=>LkBox g p D q 140
 |none=>LkBox g p D 0 0
theorem LkR.boxes{g g':Glob}{p:Nat}{D:Dat}{r:Option Int}(h:LkR g p D r)(e:g'.boxes=g.boxes):LkR g' p D r:=by
 cases r<;>(unfold LkR LkBox at*;rw[e];exact h)
theorem LkR.code{g:Glob}{p:Nat}{D:Dat}{r:Option Int}(h:LkR g p D r):GOk TT 3 g p 2 (.int .i64 (match r with|some _=>140|none=>0)):=by
 cases r<;>exact gokD undInt sizeInt' rfl h rfl
theorem LkR.decls{g:Glob}{p:Nat}{D:Dat}{r:Option Int}(h:LkR g p D r):GOk TT 22 g p 0 D:=by
 cases r<;>exact gokD undDecls sizeDecls rfl h rfl
theorem bad_ok{g:Glob}{p:Nat}{D:Dat}{q:Int}{Qf:OGP}(h:LkR g p D none)(hQ:∀g',LkR g' p D (some q)→g'.toks=g.toks→Qf (.val (.tuple [])) g'):EvF TT 90 [.ptr (some (p,0)),.int .i64 q] g Qf:=by
 have h':g.boxes[p]?=some (.cells [.d D,.d (.int .i64 0),.d (.int .i64 0)]):=h
 have hlt:=(List.getElem?_eq_some_iff.1 h').1
 obtain⟨a1,a2⟩:=gput_at (o:=2) (x:=.int .i64 140) h' (by simp) rfl
 have h2:({g with boxes:=g.boxes.set p (.cells [.d D,.d (.int .i64 0),.d (.int .i64 140)])}:Glob).boxes[p]?=some (.cells [.d D,.d (.int .i64 0),.d (.int .i64 140)]):=by simp only;rw[List.getElem?_set_self hlt]
 have a2:gput g p 2 (.int .i64 140)={g with boxes:=g.boxes.set p (.cells [.d D,.d (.int .i64 0),.d (.int .i64 140)])}:=a2
 obtain⟨b1,b2⟩:=gput_at (o:=1) (x:=.int .i64 q) h2 (by simp) rfl
 refine w90 ⟨0,h.code,brT rfl ⟨a1,?_⟩⟩
 rw[a2]
 refine⟨b1,?_⟩
 rw[b2]
 refine hQ _ ?_ rfl
 show _=some (GBox.cells [.d D,.d (.int .i64 q),.d (.int .i64 140)])
 simp only
 rw[List.getElem?_set_self (by simp;exact hlt)]
 rfl
theorem con14_ok{g:Glob}{p m:Nat}{D:Dat}{l:List Dc}{s:Str}{q:Int}{Qf:OGP}(hD:DL D l)(h:LkR g p D none)(hs:s.length≤2^40)(hT:conOk l s m=true→Qf (.val (.tuple [])) g)(hF:conOk l s m=false→∀g',LkR g' p D (some q)→g'.toks=g.toks→Qf (.val (.tuple [])) g'):
 EvF TT 93 [.ptr (some (p,0)),.str s,.int .i64 m,.int .i64 q] g Qf:=by
 refine w93 hs ⟨D,hD.ty,h.decls,r14Find_ok D s g hD.ty hs _ ?_⟩
 rw[hD.abs]
 rcases findDc_spec s l 0 with ⟨i,j,d,c,e,hi,hj,hf⟩|⟨e,hf⟩
 ·rw[e,Int.zero_add]
  have hlt:i<l.length:=(List.getElem?_eq_some_iff.1 hi).1
  obtain⟨s4,a4,b4,p4,eg,_,_,hb4,el⟩:=hD.get hlt
  rw[List.getElem?_eq_getElem hlt] at hi
  have hd:d=⟨s4,(elsOf a4).map strOf,(elsOf b4).map absCn,p4⟩:=by rw[←el];exact(Option.some.inj hi).symm
  subst hd
  have hj:((elsOf b4).map absCn)[j]?=some c:=hj
  have hjl:j<(elsOf b4).length:=by have:=(List.getElem?_eq_some_iff.1 hj).1;rwa [List.length_map] at this
  rw[List.getElem?_map,List.getElem?_eq_getElem hjl] at hj
  have hc:absCn (elsOf b4)[j]=c:=by simpa using hj
  refine⟨_,_,_,⟨rfl,rfl,rfl,trivial⟩,⟨D,hD.ty,h.decls,by rw[hD.len];exact inB hlt,?_⟩⟩
  rw[eg]
  show InB (j:Int) (elsOf b4).length∧Br (((elsOf (fld (getE (elsOf b4) (j:Int)) 1)).length:Int)!=(m:Int)) _ _
  rw[getE_nat hjl]
  have hfs:c.fs.length=(elsOf (fld (elsOf b4)[j] 1)).length:=by rw[←hc,absCn_len]
  have hco:(((elsOf (fld (elsOf b4)[j] 1)).length:Int)!=(m:Int))=!conOk l s m:=by
   unfold conOk
   rw[hf,hfs,Bool.eq_iff_iff]
   simp
   omega
  rw[hco]
  refine⟨inB hjl,Br_iff.2 ⟨λq5=>bad_ok h λg' h' ht=>⟨trivial,hF (by simpa using q5) g' h' ht⟩,λq5=>hT (by simpa using q5)⟩⟩
 ·rw[e]
  have hco:conOk l s m=false:=by unfold conOk;rw[hf];rfl
  exact⟨_,_,_,⟨rfl,rfl,rfl,trivial⟩,bad_ok h λg' h' ht=>⟨trivial,hF hco g' h' ht⟩⟩
theorem okPt_var{s:Str}{n l:Int}(h:okPt1 2 s n l=true):l=0:=by
 have h:(wLow s&&((n==0)&&(l==0)))=true:=h
 simp only[Bool.and_eq_true,beq_iff_eq] at h
 exact h.2.2
theorem okPts_mem{l:List Pt}{i:Nat}{x:Pt}(h:okPts l=true)(hi:l[i]?=some x):okPt x=true:=by
 induction l generalizing i with
 |nil=>simp at hi
 |cons y l ih=>
  unfold okPts at h
  rw[Bool.and_eq_true] at h
  cases i with
  |zero=>simp at hi;subst hi;exact h.1
  |succ i=>exact ih h.2 (by simpa using hi)
def PSt14(g:Glob)(p:Nat)(D:Dat)(ns:List Str):PR→Prop
 |.bad q=>LkR g p D (some q)
 |.ok r=>LkR g p D none∧ns=r
theorem pat14_skip{g:Glob}{p:Nat}{D x X:Dat}{q:Int}{Qf:OGP}(hx:HasTy TT 52 x)(hX:HasTy TT 82 X)(h:LkR g p D (some q))(hQ:∀v,RetV v X→Qf (.val v) g):EvF TT 92 [.ptr (some (p,0)),x,X] g Qf:=
 w92 hx hX ⟨140,h.code,brT rfl hQ⟩
theorem pat14_ok:∀(n:Nat) {x D X:Dat} {l:List Dc} {ns:List Str} {p b:Nat} {g:Glob} {Qf:OGP},SizeOf.sizeOf x<n→HasTy TT 52 x→okPt (absPt x)=true→DL D l→LkR g p D none→Gr b g X ns→b≤g.toks.length→(∀s∈ns,s.length≤2^40)→ns.length+szPt (absPt x)≤2^29→
 (∀v X' ns' g',RetV v X'→Gr b g' X' ns'→b≤g'.toks.length→(∀s∈ns',s.length≤2^40)→ns'.length≤ns.length+szPt (absPt x)→PSt14 g' p D ns' (patF l (absPt x) ns)→Qf (.val v) g')→EvF TT 92 [.ptr (some (p,0)),x,X] g Qf
 |0,x,D,X,l,ns,p,b,g,Qf,hsz,_,_,_,_,_,_,_,_,_=>by omega
 |n+1,x,D,X,l,ns,p,b,g,Qf,hsz,hx,hok,hD,hlk,hg,hbt,hs,hn,hQ=>by
  obtain⟨k1,s1,v1,a1,q1,rfl,hs1,t1⟩:=pat_ty hx
  have ex:=t1.els undPats
  have exl:=ex.1.1
  have hc:=sizeOf_cell (cs:=[.int .i64 k1,.str s1,.int .i64 v1,a1,.int .i64 q1]) (c:=a1) (by simp)
  have e1:patF l (absPt (.agg [.int .i64 k1,.str s1,.int .i64 v1,a1,.int .i64 q1])) ns=(bif k1==2 then(bif ns.contains s1 then .bad q1 else patFs l (((elsOf a1).drop 0).map absPt) (ns++[s1])) else bif k1==4&&!(conOk l s1 (elsOf a1).length) then .bad q1 else patFs l (((elsOf a1).drop 0).map absPt) ns):=by
   simp only[absPt,patF,absPtA_map,List.length_map,List.drop_zero]
  have e2:szPt (absPt (.agg [.int .i64 k1,.str s1,.int .i64 v1,a1,.int .i64 q1]))=1+szPts (((elsOf a1).drop 0).map absPt):=by simp only[absPt,szPt,absPtA_map,List.drop_zero]
  have e3:okPt1 k1 s1 v1 (elsOf a1).length=true∧okPts ((elsOf a1).map absPt)=true:=by
   have h:okPt (.mk k1 s1 v1 (absPtA a1) q1)=true:=hok
   unfold okPt at h
   rw[Bool.and_eq_true,absPtA_map,List.length_map] at h
   exact h
  rw[e1,e2] at hQ
  rw[e2] at hn
  have hX:=hg.ty (by omega) hs
  have loop:∀(i:Nat),i≤(elsOf a1).length→∀{R:PR} {X:Dat} {ns0:List Str} {g0:Glob},((∃q,R=.bad q∧LkR g0 p D (some q))∨(LkR g0 p D none∧R=patFs l (((elsOf a1).drop i).map absPt) ns0))→Gr b g0 X ns0→b≤g0.toks.length→(∀s∈ns0,s.length≤2^40)→ns0.length+szPts (((elsOf a1).drop i).map absPt)≤ns.length+(1+szPts (((elsOf a1).drop 0).map absPt))→
   (∀v X' ns' g',RetV v X'→Gr b g' X' ns'→b≤g'.toks.length→(∀s∈ns',s.length≤2^40)→ns'.length≤ns.length+(1+szPts (((elsOf a1).drop 0).map absPt))→PSt14 g' p D ns' R→Qf (.val v) g')→L92_11 p X (i:Int) (.agg [.int .i64 k1,.str s1,.int .i64 v1,a1,.int .i64 q1]) g0 Qf:=by
   refine loopUp (len:=(elsOf a1).length) _ ?_ ?_
   ·intro R X ns0 g0 hR hg hbt hs hn hQ
    refine w92_11 ?_
    rw[show(fld (Dat.agg [.int .i64 k1,.str s1,.int .i64 v1,a1,.int .i64 q1]) 3)=a1 from rfl,Br_ge]
    intro v hv
    refine hQ v X ns0 g0 hv hg hbt hs (by omega) ?_
    rcases hR with ⟨q,rfl,h⟩|⟨h,e⟩
    ·exact h
    ·rw[List.drop_length] at e;subst e;exact⟨h,rfl⟩
   ·intro i hi ih R X ns0 g0 hR hg hbt hs hn' hQ
    refine w92_11 ?_
    rw[show(fld (Dat.agg [.int .i64 k1,.str s1,.int .i64 v1,a1,.int .i64 q1]) 3)=a1 from rfl,Br_lt hi,getE_nat hi]
    have h1:=sizeOf_el hi
    have htx:=ex.2 _ (List.getElem_mem hi)
    have hsp:szPts (((elsOf a1).drop i).map absPt)=szPt (absPt (elsOf a1)[i])+szPts (((elsOf a1).drop (i+1)).map absPt):=szPts_drop hi
    have hX0:=hg.ty (by omega) hs
    refine⟨inB hi,?_⟩
    rcases hR with ⟨q,rfl,h⟩|⟨h,e⟩
    ·refine pat14_skip htx hX0 h λv hv=>⟨X,hX0,hv,?_⟩
     rw[wrap_nat (by omega)]
     exact ih (.inl ⟨q,rfl,h⟩) hg hbt hs (by omega) hQ
    ·have hoki:okPt (absPt (elsOf a1)[i])=true:=okPts_mem (i:=i) e3.2 (by rw[List.getElem?_map,List.getElem?_eq_getElem hi];rfl)
     refine pat14_ok n (by omega) htx hoki hD h hg hbt hs (by omega) λv X' ns' g' hv hg' hbt' hs' hn2 hP=>⟨X',hg'.ty (by omega) hs',hv,?_⟩
     rw[wrap_nat (by omega)]
     refine ih ?_ hg' hbt' hs' (by omega) hQ
     rw[List.drop_eq_getElem_cons hi,List.map_cons] at e
     unfold patFs at e
     cases hr:patF l (absPt (elsOf a1)[i]) ns0 with
     |bad q=>
      rw[hr] at hP e
      exact .inl ⟨q,e,hP⟩
     |ok r=>
      rw[hr] at hP e
      obtain⟨hP,rfl⟩:=hP
      exact .inr ⟨hP,e⟩
  refine w92 hx hX ⟨0,hlk.code,brF rfl ?_⟩
  show Br (k1==2) _ (Br (k1==4) _ _)
  refine Br_iff.2 ⟨λq=>among_ok hX hg.els hs1 ⟨_,rfl,Br_iff.2 ⟨λq3=>bad_ok hlk λg1 h1 ht=>⟨trivial,?_⟩,λq3=>?_⟩⟩,λq=>Br_iff.2 ⟨λq2=>?_,λq2=>?_⟩⟩
  ·replace q3:ns.contains s1=true:=q3
   rw[q,q3] at hQ
   have hg1:=hg.toks ht
   obtain⟨r,g2,r1,r2,r3⟩:=hg1.app (by rw[ht];exact hbt) s1
   refine⟨fitS' (by rw[elsLen hg.els];simp only[List.length_cons,List.length_nil];omega),r,g2,r1,λv hv=>hQ v r (ns++[s1]) g2 hv r2 (Nat.le_trans (by rw[ht];exact hbt) r3.len) (λs h=>?_) (by simp only[List.length_append,List.length_cons,List.length_nil];omega) ?_⟩
   ·rcases List.mem_append.1 h with h|h
    ·exact hs s h
    ·rw[List.mem_singleton] at h;subst h;exact hs1
   ·exact h1.boxes r3.boxes
  ·replace q3:ns.contains s1=false:=q3
   rw[q,q3] at hQ
   have hl0:(elsOf a1).length=0:=by
    have:=e3.1
    rw[beq_iff_eq.1 q] at this
    have:=okPt_var this
    omega
   have hnil:elsOf a1=[]:=List.eq_nil_of_length_eq_zero hl0
   obtain⟨r,g2,r1,r2,r3⟩:=hg.app hbt s1
   refine⟨fitS' (by rw[elsLen hg.els];simp only[List.length_cons,List.length_nil];omega),r,g2,r1,λv hv=>hQ v r (ns++[s1]) g2 hv r2 (Nat.le_trans hbt r3.len) (λs h=>?_) (by simp only[List.length_append,List.length_cons,List.length_nil];omega) ?_⟩
   ·rcases List.mem_append.1 h with h|h
    ·exact hs s h
    ·rw[List.mem_singleton] at h;subst h;exact hs1
   ·rw[hnil]
    exact⟨hlk.boxes r3.boxes,rfl⟩
  ·rw[q,q2] at hQ
   refine con14_ok (m:=(elsOf a1).length) hD hlk hs1 (λh=>⟨trivial,?_⟩) λh g' h' ht=>⟨trivial,?_⟩
   ·replace h:conOk l s1 (elsOf a1).length=_:=h
    rw[h] at hQ
    exact loop 0 (Nat.zero_le _) (.inr ⟨hlk,rfl⟩) hg hbt hs (by omega) hQ
   ·replace h:conOk l s1 (elsOf a1).length=_:=h
    rw[h] at hQ
    exact loop 0 (Nat.zero_le _) (.inl ⟨q1,rfl,h'⟩) (hg.toks ht) (by rw[ht];exact hbt) hs (by omega) hQ
  ·rw[q,q2] at hQ
   exact loop 0 (Nat.zero_le _) (.inr ⟨hlk,rfl⟩) hg hbt hs (by omega) hQ
end Go.Proofs.YtiheejdkkjfenaaGreatDoor.Pa
namespace Go.Proofs.YtiheejdkkjfenaaGreatDoor.Pa
open Go Go.Proofs.YtiheejdkkjfenaaGreatDoor.Am
theorem okEx_len{k:Int}{s r:Str}{n la lb:Int}(h:okEx1 k s r n la lb=true):((k==3)=true→la=1)∧((k==5)=true→la=2)∧((k==6)=true→la=2)∧((k==1)=true→la=0):=by
 unfold okEx1 at h
 cases q:(!(k==6)&&!(r==[]))||((!(k==2)&&!(n==0))||(!(k==7)&&pos0 lb)) with
 |true=>rw[q] at h;cases h
 |false=>
  rw[q,cond_false] at h
  refine⟨λe=>?_,λe=>?_,λe=>?_,λe=>?_⟩<;>(rw[beq_iff_eq] at e;subst e;simp at h;omega)
theorem expr14_skip{g:Glob}{p:Nat}{D x X:Dat}{q:Int}{Qf:OGP}(hx:HasTy TT 26 x)(hX:HasTy TT 82 X)(h:LkR g p D (some q))(hQ:Qf (.val (.tuple [])) g):EvF TT 55 [.ptr (some (p,0)),x,X] g Qf:=
 w55 hx hX ⟨140,h.code,brT rfl hQ⟩
def LkS(g:Glob)(p:Nat)(D:Dat)(l:List Dc)(nm:Nat→PR)(xs:List Ex')(i:Nat)(bd:List Str)(R:Option Int):Prop:=(∃q,R=some q∧LkR g p D (some q))∨(LkR g p D none∧R=exprFs l nm xs i bd)
theorem LkS.fin{g:Glob}{p:Nat}{D:Dat}{l:List Dc}{nm:Nat→PR}{i:Nat}{bd:List Str}{R:Option Int}(h:LkS g p D l nm [] i bd R):LkR g p D R:=by
 rcases h with ⟨q,rfl,h⟩|⟨h,e⟩
 ·exact h
 ·rw[e];exact h
theorem one_str(s:Str):[Dat.str s]=([s]:List Str).map .str:=rfl
theorem two_str(s r:Str):[Dat.str s,Dat.str r]=([s,r]:List Str).map .str:=rfl
theorem names_len(l:List Dc)(k:Int)(s r:Str)(b:List Pt)(i:Nat)(ns:List Str)(h:namesAt l k s r b i=.ok ns):ns.length≤2+szPts b:=by
 unfold namesAt at h
 cases q:k==7&&decide (0<i) with
 |false=>
  rw[q] at h
  cases h
  exact bindsOf_len ..
 |true=>
  rw[q,cond_true] at h
  cases e:b[i-1]? with
  |none=>rw[e] at h;cases h;simp
  |some x=>
   rw[e] at h
   have h1:=patF_len l x [] ns h
   have h2:=szPts_mem e
   simp only[List.length_nil] at h1
   omega
theorem expr14_ok:∀(n:Nat) {x D X:Dat} {l:List Dc} {bd:List Str} {p:Nat} {g:Glob} {Qf:OGP},SizeOf.sizeOf x<n→HasTy TT 26 x→okEx (absEx x)=true→DL D l→LkR g p D none→HasTy TT 82 X→elsOf X=bd.map .str→
 bd.length+2*szEx (absEx x)≤2^28→(∀g',LkR g' p D (exprF l (absEx x) bd)→Qf (.val (.tuple [])) g')→EvF TT 55 [.ptr (some (p,0)),x,X] g Qf
 |0,x,D,X,l,bd,p,g,Qf,hsz,_,_,_,_,_,_,_,_=>by omega
 |n+1,x,D,X,l,bd,p,g,Qf,hsz,hx,hok,hD,hlk,hX,eX,hn,hQ=>by
  obtain⟨k1,s1,r1,v1,a1,b1,q1,rfl,hs1,hr1,t1,u1⟩:=expr_ty hx
  have ex:=t1.els undExprs
  have exl:=ex.1.1
  have eu:=u1.els undPats
  have eul:=eu.1.1
  have hc:=sizeOf_cell (cs:=[.int .i64 k1,.str s1,.str r1,.int .i64 v1,a1,b1,.int .i64 q1]) (c:=a1) (by simp)
  have e1:exprF l (absEx (.agg [.int .i64 k1,.str s1,.str r1,.int .i64 v1,a1,b1,.int .i64 q1])) bd=(bif k1==1&&!(bd.contains s1) then some q1 else bif k1==8&&!(conOk l s1 (elsOf a1).length) then some q1 else exprFs l (namesAt l k1 s1 r1 ((elsOf b1).map absPt)) (((elsOf a1).drop 0).map absEx) 0 bd):=by
   simp only[absEx,exprF,absPtA_map,absExA_map,List.length_map,List.drop_zero]
  have e2:szEx (absEx (.agg [.int .i64 k1,.str s1,.str r1,.int .i64 v1,a1,b1,.int .i64 q1]))=1+szPts ((elsOf b1).map absPt)+szExs (((elsOf a1).drop 0).map absEx):=by simp only[absEx,szEx,absPtA_map,absExA_map,List.drop_zero]
  have e3:okEx1 k1 s1 r1 v1 (elsOf a1).length (elsOf b1).length=true∧okPts ((elsOf b1).map absPt)=true∧okExs ((elsOf a1).map absEx)=true:=by
   have h:okEx (.mk k1 s1 r1 v1 (absExA a1) (absPtA b1) q1)=true:=hok
   unfold okEx at h
   rw[Bool.and_eq_true,Bool.and_eq_true,absExA_map,absPtA_map,List.length_map,List.length_map] at h
   exact h
  obtain⟨l3,l5,l6,l1⟩:=okEx_len e3.1
  rw[e1] at hQ
  rw[e2] at hn
  generalize hN:namesAt l k1 s1 r1 ((elsOf b1).map absPt)=N at hQ
  -- one of the parts
  have arg:∀(i:Nat),i<(elsOf a1).length→∀{R:Option Int} {g0:Glob} {Y:Dat} {ns:List Str} {Qg:OGP},(∃q,R=some q∧LkR g0 p D (some q))∨(LkR g0 p D none∧N i=.ok ns∧elsOf Y=(bd++ns).map .str∧R=exprFs l N (((elsOf a1).drop i).map absEx) i bd)→HasTy TT 82 Y→
   (∀g',LkS g' p D l N (((elsOf a1).drop (i+1)).map absEx) (i+1) bd R→Qg (.val (.tuple [])) g')→EvF TT 55 [.ptr (some (p,0)),getE (elsOf a1) (i:Int),Y] g0 Qg:=by
   intro i hi R g0 Y ns Qg hS hY hQg
   rw[getE_nat hi]
   have h1:=sizeOf_el hi
   have htx:=ex.2 _ (List.getElem_mem hi)
   rcases hS with ⟨q,rfl,h⟩|⟨h,h',eY,e⟩
   ·exact expr14_skip htx hY h (hQg g0 (.inl ⟨q,rfl,h⟩))
   ·rw[List.drop_eq_getElem_cons hi,List.map_cons] at e
    unfold exprFs at e
    rw[h'] at e
    have hmem:szEx (absEx (elsOf a1)[i])≤szExs (((elsOf a1).drop 0).map absEx):=szExs_mem (i:=i) (by rw[List.drop_zero,List.getElem?_map,List.getElem?_eq_getElem hi];rfl)
    have hoki:okEx (absEx (elsOf a1)[i])=true:=okExs_mem (i:=i) e3.2.2 (by rw[List.getElem?_map,List.getElem?_eq_getElem hi];rfl)
    have hnl:ns.length≤2+szPts ((elsOf b1).map absPt):=names_len l k1 s1 r1 _ i ns (by rw[hN];exact h')
    refine expr14_ok n (by omega) htx hoki hD h hY eY (by rw[List.length_append];omega) λg' h'=>hQg g' ?_
    replace e:R=match exprF l (absEx (elsOf a1)[i]) (bd++ns) with|some p=>some p|none=>exprFs l N (((elsOf a1).drop (i+1)).map absEx) (i+1) bd:=e
    cases hr:exprF l (absEx (elsOf a1)[i]) (bd++ns) with
    |some q=>
     rw[hr] at e h'
     exact .inl ⟨q,e,h'⟩
    |none=>
     rw[hr] at e h'
     exact .inr ⟨h',e⟩
  -- with the names that it binds
  have argB:∀(i:Nat),i<(elsOf a1).length→∀{R:Option Int} {g0:Glob} {Y:Dat} {ns:List Str} {Qg:OGP},LkS g0 p D l N (((elsOf a1).drop i).map absEx) i bd R→N i=.ok ns→elsOf Y=(bd++ns).map .str→HasTy TT 82 Y→
    (∀g',LkS g' p D l N (((elsOf a1).drop (i+1)).map absEx) (i+1) bd R→Qg (.val (.tuple [])) g')→EvF TT 55 [.ptr (some (p,0)),getE (elsOf a1) (i:Int),Y] g0 Qg:=by
   intro i hi R g0 Y ns Qg hS hNi eY hY hQg
   refine arg i hi (ns:=ns) ?_ hY hQg
   rcases hS with h|⟨h,e⟩
   ·exact .inl h
   ·exact .inr ⟨h,hNi,eY,e⟩
  have eX0:elsOf X=(bd++[]).map .str:=by rw[List.append_nil];exact eX
  have wth:∀{g0:Glob} {ks:List Str} {Qg:OGP},ks.length≤2→(∀s∈ks,s.length≤2^40)→(∀v z,RetV v z→HasTy TT 82 z→elsOf z=(bd++ks).map .str→Qg (.val v) g0)→EvF TT 91 [X,.sl 1 (ks.map .str)] g0 Qg:=
   λh1 h2 h3=>with14_ok hX eX (strs_sl (by omega) h2) rfl (by omega) h3
  have Nn:∀i,(k1==7)=false→N i=.ok (bindsOf k1 s1 r1 ((elsOf b1).map absPt) i):=by
   intro i h
   rw[←hN]
   unfold namesAt
   rw[h]
   rfl
  -- what has no names of its own
  have L6:∀(i:Nat),i≤(elsOf a1).length→∀{R:Option Int} {g0:Glob} {Qg:OGP},(∀j,N j=.ok [])→LkS g0 p D l N (((elsOf a1).drop i).map absEx) i bd R→(∀g',LkR g' p D R→Qg (.val (.tuple [])) g')→
    L55_6 p X (i:Int) (.agg [.int .i64 k1,.str s1,.str r1,.int .i64 v1,a1,b1,.int .i64 q1]) g0 Qg:=by
   refine loopUp (len:=(elsOf a1).length) _ ?_ ?_
   ·intro R g0 Qg hN0 hS hQg
    refine w55_6 ?_
    rw[show(fld (Dat.agg [.int .i64 k1,.str s1,.str r1,.int .i64 v1,a1,b1,.int .i64 q1]) 4)=a1 from rfl,Br_ge]
    rw[List.drop_length] at hS
    exact hQg g0 hS.fin
   ·intro i hi ih R g0 Qg hN0 hS hQg
    refine w55_6 ?_
    rw[show(fld (Dat.agg [.int .i64 k1,.str s1,.str r1,.int .i64 v1,a1,b1,.int .i64 q1]) 4)=a1 from rfl,Br_lt hi]
    refine⟨inB hi,argB i hi hS (hN0 i) eX0 hX λg' hS'=>⟨trivial,?_⟩⟩
    rw[wrap_nat (by omega)]
    exact ih hN0 hS' hQg
  -- the arms
  have L23:(k1==7)=true→(elsOf a1).length=(elsOf b1).length+1→∀(i:Nat),i≤(elsOf b1).length→∀{R:Option Int} {g0:Glob} {Qg:OGP},LkS g0 p D l N (((elsOf a1).drop (i+1)).map absEx) (i+1) bd R→(∀g',LkR g' p D R→Qg (.val (.tuple [])) g')→
    L55_23 p X (i:Int) (.agg [.int .i64 k1,.str s1,.str r1,.int .i64 v1,a1,b1,.int .i64 q1]) g0 Qg:=by
   intro h7 hl
   refine loopUp (len:=(elsOf b1).length) _ ?_ ?_
   ·intro R g0 Qg hS hQg
    refine w55_23 ?_
    rw[show(fld (Dat.agg [.int .i64 k1,.str s1,.str r1,.int .i64 v1,a1,b1,.int .i64 q1]) 5)=b1 from rfl,Br_ge]
    rw[←hl,List.drop_length] at hS
    exact hQg g0 hS.fin
   ·intro i hi ih R g0 Qg hS hQg
    refine w55_23 ?_
    rw[show(fld (Dat.agg [.int .i64 k1,.str s1,.str r1,.int .i64 v1,a1,b1,.int .i64 q1]) 5)=b1 from rfl,show(fld (Dat.agg [.int .i64 k1,.str s1,.str r1,.int .i64 v1,a1,b1,.int .i64 q1]) 4)=a1 from rfl,Br_lt hi,getE_nat hi,wrap_nat (by omega)]
    have htp:=eu.2 _ (List.getElem_mem hi)
    have hNi:N (i+1)=patF l (absPt (elsOf b1)[i]) []:=by
     rw[←hN]
     unfold namesAt
     rw[h7,List.getElem?_map,show i+1-1=i from rfl,List.getElem?_eq_getElem hi]
     simp
    have hmp:szPt (absPt (elsOf b1)[i])≤szPts ((elsOf b1).map absPt):=szPts_mem (i:=i) (by rw[List.getElem?_map,List.getElem?_eq_getElem hi];rfl)
    have hokp:okPt (absPt (elsOf b1)[i])=true:=okPts_mem (i:=i) e3.2.1 (by rw[List.getElem?_map,List.getElem?_eq_getElem hi];rfl)
    have hi1:i+1<(elsOf a1).length:=by omega
    refine⟨inB hi,?_⟩
    rcases hS with ⟨q,rfl,h⟩|⟨h,e⟩
    ·refine pat14_skip htp strs_nil h λv hv=>⟨.nil,strs_nil,hv,inB hi1,?_⟩
     refine with14_ok hX eX strs_nil (k:=[]) rfl (by simp only[List.length_nil];omega) λv z hv hz ez=>⟨z,hz,hv,?_⟩
     refine arg (i+1) hi1 (ns:=[]) (.inl ⟨q,rfl,h⟩) hz λg' hS'=>⟨trivial,ih hS' hQg⟩
    ·refine pat14_ok (b:=g0.toks.length) _ (Nat.lt_succ_self _) htp hokp hD h (Gr.nil _ _) (Nat.le_refl _) (λs h=>by cases h) (by simp only[List.length_nil];omega) λv X' ns' g' hv hg' _ hs' hl' hP=>⟨X',hg'.ty (by simp only[List.length_nil] at hl';omega) hs',hv,inB hi1,?_⟩
     simp only[List.length_nil] at hl'
     refine with14_ok hX eX (hg'.ty (by omega) hs') hg'.els (by omega) λv z hv hz ez=>⟨z,hz,hv,?_⟩
     refine arg (i+1) hi1 (ns:=ns') ?_ hz λg' hS'=>⟨trivial,ih hS' hQg⟩
     cases hr:patF l (absPt (elsOf b1)[i]) [] with
     |bad q=>
      rw[hr] at hP hNi
      refine .inl ⟨q,?_,hP⟩
      rw[e,List.drop_eq_getElem_cons hi1,List.map_cons]
      unfold exprFs
      rw[hNi]
     |ok r=>
      rw[hr] at hP hNi
      obtain⟨hP,rfl⟩:=hP
      exact .inr ⟨hP,hNi,ez,e⟩
  refine w55 hx hX ⟨0,hlk.code,brF rfl ?_⟩
  show Br (k1==1) _ (Br (k1==3) _ (Br (k1==5) _ (Br (k1==6) _ (Br (k1==7) _ (Br (k1==8) _ _)))))
  refine Br_iff.2 ⟨λq=>?_,λn1=>Br_iff.2 ⟨λq=>?_,λn3=>Br_iff.2 ⟨λq=>?_,λn5=>Br_iff.2 ⟨λq=>?_,λn6=>Br_iff.2 ⟨λq=>?_,λn7=>Br_iff.2 ⟨λq=>?_,λn8=>?_⟩⟩⟩⟩⟩⟩
  ·have h0:=l1 q
   have hnil:elsOf a1=[]:=List.eq_nil_of_length_eq_zero (by omega)
   have q8:(k1==8)=false:=by rw[beq_iff_eq.1 q];rfl
   rw[q,q8,hnil] at hQ
   refine among_ok hX eX hs1 ⟨_,rfl,Br_iff.2 ⟨λq3=>bad_ok hlk λg1 h1 ht=>⟨trivial,hQ g1 ?_⟩,λq3=>hQ g ?_⟩⟩
   ·replace q3:(!bd.contains s1)=true:=q3
    rw[q3]
    exact h1
   ·replace q3:(!bd.contains s1)=false:=q3
    rw[q3]
    exact hlk
  ·rw[beq_iff_eq.1 q] at hQ Nn
   have hl:=l3 q
   have z:∀g',LkS g' p D l N (((elsOf a1).drop (0+1)).map absEx) (0+1) bd (exprFs l N (((elsOf a1).drop 0).map absEx) 0 bd)→Qf (.val (.tuple [])) g':=λg' h'=>hQ g' (by
    rw[List.drop_eq_nil_of_le (by omega)] at h'
    exact h'.fin)
   refine⟨(show InB ((0:Nat):Int) (elsOf a1).length from inB (by omega)),one_str s1▸wth (by simp) (λs h=>by rw[List.mem_singleton] at h;subst h;exact hs1) λv Y hv hY eY=>⟨Y,hY,hv,?_⟩⟩
   exact argB 0 (by omega) (.inr ⟨hlk,rfl⟩) (Nn 0 rfl) eY hY λg' h'=>⟨trivial,z g' h'⟩
  ·rw[beq_iff_eq.1 q] at hQ Nn
   have hl:=l5 q
   have z:∀g',LkS g' p D l N (((elsOf a1).drop (1+1)).map absEx) (1+1) bd (exprFs l N (((elsOf a1).drop 0).map absEx) 0 bd)→Qf (.val (.tuple [])) g':=λg' h'=>hQ g' (by
    rw[List.drop_eq_nil_of_le (by omega)] at h'
    exact h'.fin)
   refine⟨(show InB ((0:Nat):Int) (elsOf a1).length from inB (by omega)),?_⟩
   refine argB 0 (by omega) (.inr ⟨hlk,rfl⟩) (Nn 0 rfl) eX0 hX λg1 h1=>⟨trivial,(show InB ((1:Nat):Int) (elsOf a1).length from inB (by omega)),one_str s1▸wth (by simp) (λs h=>by rw[List.mem_singleton] at h;subst h;exact hs1) λv Y hv hY eY=>⟨Y,hY,hv,?_⟩⟩
   exact argB 1 (by omega) h1 (Nn 1 rfl) eY hY λg' h'=>⟨trivial,z g' h'⟩
  ·rw[beq_iff_eq.1 q] at hQ Nn
   have hl:=l6 q
   have z:∀g',LkS g' p D l N (((elsOf a1).drop (1+1)).map absEx) (1+1) bd (exprFs l N (((elsOf a1).drop 0).map absEx) 0 bd)→Qf (.val (.tuple [])) g':=λg' h'=>hQ g' (by
    rw[List.drop_eq_nil_of_le (by omega)] at h'
    exact h'.fin)
   refine⟨(show InB ((0:Nat):Int) (elsOf a1).length from inB (by omega)),two_str s1 r1▸wth (by simp) (λs h=>by simp at h;rcases h with rfl|rfl<;>assumption) λv Y hv hY eY=>⟨Y,hY,hv,?_⟩⟩
   refine argB 0 (by omega) (.inr ⟨hlk,rfl⟩) (Nn 0 rfl) eY hY λg1 h1=>⟨trivial,(show InB ((1:Nat):Int) (elsOf a1).length from inB (by omega)),one_str s1▸wth (by simp) (λs h=>by rw[List.mem_singleton] at h;subst h;exact hs1) λv Y hv hY eY=>⟨Y,hY,hv,?_⟩⟩
   exact argB 1 (by omega) h1 (Nn 1 rfl) eY hY λg' h'=>⟨trivial,z g' h'⟩
  ·have q8:(k1==8)=false:=by rw[beq_iff_eq.1 q];rfl
   have hla:=e3.1
   rw[beq_iff_eq.1 q] at hla
   have hla:=okEx_case hla
   rw[n1,q8] at hQ
   have hN0:N 0=.ok []:=by
    rw[←hN,beq_iff_eq.1 q]
    rfl
   refine⟨(show InB ((0:Nat):Int) (elsOf a1).length from inB (by omega)),argB 0 (by omega) (.inr ⟨hlk,rfl⟩) hN0 eX0 hX λg1 h1=>⟨trivial,?_⟩⟩
   exact L23 q (by omega) 0 (Nat.zero_le _) h1 hQ
  ·have Nz:∀j,N j=.ok []:=λj=>by
    rw[Nn j n7,beq_iff_eq.1 q]
    rfl
   rw[n1,q] at hQ
   refine con14_ok (m:=(elsOf a1).length) hD hlk hs1 (λh=>⟨trivial,?_⟩) λh g' h' ht=>⟨trivial,?_⟩
   ·replace h:conOk l s1 (elsOf a1).length=_:=h
    rw[h] at hQ
    exact L6 0 (Nat.zero_le _) Nz (.inr ⟨hlk,rfl⟩) hQ
   ·replace h:conOk l s1 (elsOf a1).length=_:=h
    rw[h] at hQ
    exact L6 0 (Nat.zero_le _) Nz (.inl ⟨q1,rfl,h'⟩) hQ
  ·have Nz:∀j,N j=.ok []:=λj=>by
    rw[Nn j n7]
    unfold bindsOf
    rw[n3,n5,n6,n7]
    rfl
   rw[n1,n8] at hQ
   exact L6 0 (Nat.zero_le _) Nz (.inr ⟨hlk,rfl⟩) hQ
end Go.Proofs.YtiheejdkkjfenaaGreatDoor.Pa
namespace Go.Proofs.YtiheejdkkjfenaaGreatDoor.Pa
open Go Go.Proofs.YtiheejdkkjfenaaGreatDoor.Am
def pair14(a b:Int):Val:=.tuple [.d (.int .i64 a),.d (.int .i64 b)]
theorem r14Check_ok{x:Dat}{g:Glob}{Qf:OGP}(hx:HasTy TT 28 x)(hp:Pre (absPg x))(hQ:∀g',Qf (.val (pair14 (chk14 (absPg x)).1 (chk14 (absPg x)).2)) g'):EvF TT 28 [x] g Qf:=by
 refine w28 hx (rCheck_ok hx hp ⟨_,rfl,?_⟩)
 unfold chk14 at hQ
 refine Br_iff.2 ⟨λq=>?_,λq=>?_⟩
 ·have q:rCheckP (absPg x)=false:=by simpa using q
  rw[q] at hQ
  exact hQ g
 have q:rCheckP (absPg x)=true:=by simpa using q
 rw[q] at hQ
 replace hQ:∀g',Qf (.val (pair14 (chkNames (absPg x)).1 (chkNames (absPg x)).2)) g':=hQ
 obtain⟨f1,f2,f3,f4⟩:=rCheck_facts q
 refine r14All_ok x g hx (by omega) _ λD hD hDl v hv=>⟨D,hD,hv,?_⟩
 have dl:DL D (allDc (absPg x)):=⟨hD,hDl⟩
 have t3:(allDc (absPg x)).take 3=baseL.map absDc:=rfl
 have d3:(allDc (absPg x)).drop 3=(absPg x).ds:=rfl
 have len3:3≤(allDc (absPg x)).length:=by rw[allDc_len];omega
 have lenB:(allDc (absPg x)).length≤2^30:=by rw[allDc_len];omega
 unfold chkNames at hQ
 rw[←t3,←d3] at hQ
 obtain⟨d1,k1,s1,r1,n1,a1,b1,p1,rfl,hd1,he1⟩:=prog_ty hx
 have ee:(absPg (.agg [d1,.int .i64 k1,.str s1,.str r1,.int .i64 n1,a1,b1,.int .i64 p1])).e=absEx (.agg [.int .i64 k1,.str s1,.str r1,.int .i64 n1,a1,b1,.int .i64 p1]):=rfl
 rw[ee] at hQ f2 f3
 generalize hl:allDc (absPg (.agg [d1,.int .i64 k1,.str s1,.str r1,.int .i64 n1,a1,b1,.int .i64 p1]))=l at hQ dl len3 lenB
 have hlen:=dl.len
 -- the expression
 have LE:(∀g',match exprF l (absEx (.agg [.int .i64 k1,.str s1,.str r1,.int .i64 n1,a1,b1,.int .i64 p1])) [] with|some q=>Qf (.val (pair14 140 q)) g'|none=>Qf (.val (pair14 0 0)) g')→
  EvF TT 55 [Dat.ptr (some (g.boxes.length,0)),.agg [.int .i64 k1,.str s1,.str r1,.int .i64 n1,a1,b1,.int .i64 p1],Dat.nil] (gnew g [D,Dat.int IntKind.i64 0,Dat.int IntKind.i64 0]) (KQ Qf λv g'=>RetT v []∧∃n,GOk TT 3 g' g.boxes.length 2 (Dat.int IntKind.i64 n)∧∃n_1,GOk TT 3 g' g.boxes.length 1 (Dat.int IntKind.i64 n_1)∧Qf (Out.val (Val.tuple [Val.d (Dat.int IntKind.i64 n),Val.d (Dat.int IntKind.i64 n_1)])) g'):=by
  intro hE
  refine expr14_ok _ (Nat.lt_succ_self _) he1 f3 dl (gnew_get g _) strs_nil (bd:=[]) rfl (by simp only[List.length_nil];omega) λg' h'=>⟨trivial,?_⟩
  have hE:=hE g'
  cases r:exprF l (absEx (.agg [.int .i64 k1,.str s1,.str r1,.int .i64 n1,a1,b1,.int .i64 p1])) [] with
  |some q=>
   rw[r] at hE h'
   exact⟨140,gokD undInt sizeInt' rfl h' rfl,q,gokD undInt sizeInt' rfl h' rfl,hE⟩
  |none=>
   rw[r] at hE h'
   exact⟨0,gokD undInt sizeInt' rfl h' rfl,0,gokD undInt sizeInt' rfl h' rfl,hE⟩
 -- Fields' types
 have L10:∀(i:Nat),i≤(elsOf D).length→(match firstTy l (l.drop i) with|some q=>Qf (.val (pair14 141 q)) g|none=>∀g',match exprF l (absEx (.agg [.int .i64 k1,.str s1,.str r1,.int .i64 n1,a1,b1,.int .i64 p1])) [] with|some q=>Qf (.val (pair14 140 q)) g'|none=>Qf (.val (pair14 0 0)) g')→
   L28_10 D (i:Int) (.agg [d1,.int .i64 k1,.str s1,.str r1,.int .i64 n1,a1,b1,.int .i64 p1]) g Qf:=by
  refine loopUp (len:=(elsOf D).length) _ ?_ ?_
  ·intro hE
   refine w28_10 ?_
   rw[Br_ge]
   rw[hlen,List.drop_length] at hE
   exact LE hE
  ·intro i hi ih hE
   refine w28_10 ?_
   rw[Br_lt hi]
   have hi':i<l.length:=by omega
   obtain⟨s2,a2,b2,q2,eg,hs2,ha2,hb2,el⟩:=dl.get hi'
   rw[List.drop_eq_getElem_cons hi'] at hE
   unfold firstTy at hE
   rw[el] at hE
   simp only at hE
   have eb:=hb2.els undCons
   have ebl:=eb.1.1
   have hps:elsOf a2=((elsOf a2).map strOf).map .str:=strEls ha2
   generalize (elsOf a2).map strOf=ps at hE hps
   -- its constructors
   have L13:∀(j:Nat),j≤(elsOf b2).length→(match (bif consTy l ps (((elsOf b2).drop j).map absCn) then firstTy l (l.drop (i+1)) else some q2) with|some q=>Qf (.val (pair14 141 q)) g|none=>∀g',match exprF l (absEx (.agg [.int .i64 k1,.str s1,.str r1,.int .i64 n1,a1,b1,.int .i64 p1])) [] with|some q=>Qf (.val (pair14 140 q)) g'|none=>Qf (.val (pair14 0 0)) g')→
    L28_13 D (i:Int) (j:Int) (.agg [d1,.int .i64 k1,.str s1,.str r1,.int .i64 n1,a1,b1,.int .i64 p1]) g Qf:=by
    refine loopUp (len:=(elsOf b2).length) _ ?_ ?_
    ·intro hE
     refine w28_13 ⟨inB hi,?_⟩
     rw[eg,show(fld (Dat.agg [.str s2,a2,b2,.int .i64 q2]) 2)=b2 from rfl,Br_ge,wrap_nat (by omega)]
     rw[List.drop_length] at hE
     exact ih hE
    ·intro j hj ihj hE
     refine w28_13 ⟨inB hi,?_⟩
     rw[eg,show(fld (Dat.agg [.str s2,a2,b2,.int .i64 q2]) 2)=b2 from rfl,Br_lt hj]
     obtain⟨s3,f3,e3,_,hf3⟩:=con_ty (eb.2 _ (List.getElem_mem hj))
     have ef:=hf3.els undTypes
     have efl:=ef.1.1
     rw[List.drop_eq_getElem_cons hj,List.map_cons] at hE
     unfold consTy at hE
     have efs:(absCn (elsOf b2)[j]).fs=((elsOf f3).drop 0).map absTy:=by rw[absCn_fs,e3];rfl
     rw[efs] at hE
     refine loopUp (len:=(elsOf f3).length) (λk=>(match (bif typedTs l ps (((elsOf f3).drop k).map absTy)&&consTy l ps (((elsOf b2).drop (j+1)).map absCn) then firstTy l (l.drop (i+1)) else some q2) with|some q=>Qf (.val (pair14 141 q)) g|none=>∀g',match exprF l (absEx (.agg [.int .i64 k1,.str s1,.str r1,.int .i64 n1,a1,b1,.int .i64 p1])) [] with|some q=>Qf (.val (pair14 140 q)) g'|none=>Qf (.val (pair14 0 0)) g')→
      L28_16 D (i:Int) (j:Int) (k:Int) (.agg [d1,.int .i64 k1,.str s1,.str r1,.int .i64 n1,a1,b1,.int .i64 p1]) g Qf) ?_ ?_ 0 (Nat.zero_le _) hE
     ·intro hE
      refine w28_16 ⟨inB hi,?_⟩
      rw[eg,show(fld (Dat.agg [.str s2,a2,b2,.int .i64 q2]) 2)=b2 from rfl,getE_nat hj,e3,show(fld (Dat.agg [.str s3,f3]) 1)=f3 from rfl,Br_ge,wrap_nat (by omega)]
      rw[List.drop_length] at hE
      exact⟨inB hj,ihj hE⟩
     ·intro k hk ihk hE
      refine w28_16 ⟨inB hi,?_⟩
      rw[eg,show(fld (Dat.agg [.str s2,a2,b2,.int .i64 q2]) 2)=b2 from rfl,show(fld (Dat.agg [.str s2,a2,b2,.int .i64 q2]) 1)=a2 from rfl,show(fld (Dat.agg [.str s2,a2,b2,.int .i64 q2]) 3)=.int .i64 q2 from rfl,getE_nat hj,e3,show(fld (Dat.agg [.str s3,f3]) 1)=f3 from rfl,Br_lt hk,getE_nat hk]
      rw[List.drop_eq_getElem_cons hk,List.map_cons] at hE
      unfold typedTs at hE
      refine⟨inB hj,inB hi,inB hi,inB hj,inB hk,field_ok _ (Nat.lt_succ_self _) (ef.2 _ (List.getElem_mem hk)) ha2 hps dl ⟨_,rfl,Br_iff.2 ⟨λq5=>⟨inB hi,?_⟩,λq5=>?_⟩⟩⟩
      ·have q5:typedT l ps (absTy (elsOf f3)[k])=false:=by simpa using q5
       rw[q5] at hE
       exact hE
      ·have q5:typedT l ps (absTy (elsOf f3)[k])=true:=by simpa using q5
       rw[q5] at hE
       rw[wrap_nat (by omega)]
       exact ihk hE
   exact L13 0 (Nat.zero_le _) hE
 -- what stands twice
 have hQ1:∀g',(match firstBad (l.take 3) (l.drop 3) with|some q=>Qf (.val (pair14 141 q)) g'|none=>match firstTy l (l.drop 3) with|some q=>Qf (.val (pair14 141 q)) g'|none=>match exprF l (absEx (.agg [.int .i64 k1,.str s1,.str r1,.int .i64 n1,a1,b1,.int .i64 p1])) [] with|some q=>Qf (.val (pair14 140 q)) g'|none=>Qf (.val (pair14 0 0)) g'):=λg'=>by
  have h:=hQ g'
  cases h1:firstBad (l.take 3) (l.drop 3) with
  |some q=>rw[h1] at h;exact h
  |none=>
   rw[h1] at h
   simp only at h⊢
   cases h2:firstTy l (l.drop 3) with
   |some q=>rw[h2] at h;exact h
   |none=>
    rw[h2] at h
    simp only at h⊢
    cases h3:exprF l (absEx (.agg [.int .i64 k1,.str s1,.str r1,.int .i64 n1,a1,b1,.int .i64 p1])) []<;>(rw[h3] at h;exact h)
 refine loopUp (len:=(elsOf D).length) (λi=>3≤i→(∀g',(match firstBad (l.take i) (l.drop i) with|some q=>Qf (.val (pair14 141 q)) g'|none=>match firstTy l (l.drop 3) with|some q=>Qf (.val (pair14 141 q)) g'|none=>match exprF l (absEx (.agg [.int .i64 k1,.str s1,.str r1,.int .i64 n1,a1,b1,.int .i64 p1])) [] with|some q=>Qf (.val (pair14 140 q)) g'|none=>Qf (.val (pair14 0 0)) g'))→
  L28_5 D (i:Int) (.agg [d1,.int .i64 k1,.str s1,.str r1,.int .i64 n1,a1,b1,.int .i64 p1]) g Qf) ?_ ?_ 3 (by omega) (Nat.le_refl _) hQ1
 ·intro _ hE
  refine w28_5 ?_
  rw[Br_ge]
  rw[hlen,List.drop_length] at hE
  refine L10 3 (by omega) ?_
  have hE:∀g',match firstTy l (l.drop 3) with|some q=>Qf (.val (pair14 141 q)) g'|none=>match exprF l (absEx (.agg [.int .i64 k1,.str s1,.str r1,.int .i64 n1,a1,b1,.int .i64 p1])) [] with|some q=>Qf (.val (pair14 140 q)) g'|none=>Qf (.val (pair14 0 0)) g':=hE
  cases h2:firstTy l (l.drop 3) with
  |some q=>rw[h2] at hE;exact hE g
  |none=>rw[h2] at hE;exact hE
 ·intro i hi ih h3 hE
  refine w28_5 ?_
  have hi':i<l.length:=by omega
  rw[Br_lt hi]
  obtain⟨s2,a2,b2,q2,eg,hs2,ha2,hb2,el⟩:=dl.get hi'
  rw[eg]
  rw[List.drop_eq_getElem_cons hi'] at hE
  unfold firstBad at hE
  rw[←List.take_succ_eq_append_getElem hi'] at hE
  have ep:l[i].p=q2:=by rw[el]
  rw[ep] at hE
  refine twice_ok dl hi' ⟨_,rfl,Br_iff.2 ⟨λq5=>⟨inB hi,?_⟩,λq5=>?_⟩⟩
  ·rw[show declBad (l.take i) l[i]=true from q5] at hE
   exact hE g
  ·rw[show declBad (l.take i) l[i]=false from q5] at hE
   rw[wrap_nat (by omega)]
   exact ih (by omega) hE
end Go.Proofs.YtiheejdkkjfenaaGreatDoor.Pa
