/- Scope: the document's Check. Scope: the document's look at expressions; its Check. Scope: the document's look at expressions. Scope: the document's Check; both agree. -/
import Derived.Test.YtiheejdkkjfenaaGreatDoorSD
set_option linter.all false
set_option autoImplicit false
set_option maxRecDepth 100000
namespace Go.Proofs.YtiheejdkkjfenaaGreatDoor.Pa
open Go Go.Proofs.YtiheejdkkjfenaaGreatDoor.Am
theorem dek{D:Dat}{l:List Dc}{s:Str}{g:Glob}{Qf:OGP}(hD:DL D l)(hs:s.length≤2^40)(hQ:Qf (.val (.d (.int .i64 (dI s l 0)))) g):EvF TT 56 [D,.str s] g Qf:=by
 have exl:=lel uD hD.ty;refine w56 hD.ty hs ?_;have e:l=((elO D).drop 0).map abD:=by rw[List.drop_zero,hD.abs]
 rw[e] at hQ;refine lU (len:=(elO D).length) (λi=>Qf (.val (.d (.int .i64 (dI s (((elO D).drop i).map abD) (i:Int))))) g→L56_2 D s (i:Int) g Qf) ?_ ?_ 0 (Nat.zero_le _) hQ
 ·intro hQ;refine w56_2 ?_;rw[Bg];rw[List.drop_length] at hQ;exact hQ
 ·intro i hi ih hQ;refine w56_2 ?_;rw[Bl hi,geE hi];rw[List.drop_eq_getElem_cons hi,List.map_cons] at hQ;unfold dI at hQ;obtain⟨s2,a2,b2,q2,e,_⟩:=det ((hD.ty.els uD).2 _ (List.getElem_mem hi));rw[e] at hQ⊢;have hQ:Qf (.val (.d (.int .i64 (bif s2==s then(i:Int) else dI s (((elO D).drop (i+1)).map abD) ((i:Int)+1))))) g:=hQ;refine⟨inB hi,Bi.2 ⟨λq=>?_,λq=>?_⟩⟩
  ·have q:(s2==s)=true:=q;rw[q] at hQ;exact hQ
  ·have q:(s2==s)=false:=q;rw[q] at hQ;rw[wra (by omega)];exact ih hQ
theorem dex(s:Str)(l:List Dc):decide (0≤dI s l 0)=l.any (λe=>e.s==s):=by
 have h:(dcP s l).isSome=l.any (λe=>e.s==s):=by
  induction l with
  |nil=>rfl
  |cons d l ih=>
   rw[List.any_cons,←ih];cases q:d.s==s<;>simp[dcP,q]
 rw[←h];rcases deI s l 0 with ⟨k,d,e,_,hp⟩|⟨e,hp⟩
 ·have e:dI s l 0=((0+k:Nat):Int):=e;rw[e,hp];exact decide_eq_true (by omega)
 ·have e:dI s l 0=-1:=e;rw[e,hp];rfl
theorem fiD(s:Str)(l:List Dc):(fD s l 0).2.2=(dcF s l).isSome:=by
 rcases fid s l 0 with ⟨i,j,d,c,e,_,_,hf⟩|⟨e,hf⟩<;>rw[e,hf]<;>rfl
theorem suD{D:Dat}{l:List Dc}{i:Nat}(hD:DL D l)(hi:i≤l.length):DL (sS 4 D (elO D) 0 (i:Int)) (l.take i):=by
 unfold sS;split
 ·rename_i h;have:i=l.length:=by have:=h.2;rw[hD.len] at this;omega
  subst this;rw[List.take_length];exact hD
 ·have e:((elO D).take (i:Int).toNat).drop (0:Int).toNat=(elO D).take i:=by
   rw[Int.toNat_natCast,show(0:Int).toNat=0 from rfl,List.drop_zero]
  rw[e];have ed:=hD.ty.els uD;exact⟨.sl _ _ _ _ uD szD (ed.1.le (by rw[List.length_take];omega)) λy hy=>ed.2 y (List.mem_of_mem_take hy),by rw[←hD.abs];exact List.map_take ..⟩
theorem twc{D:Dat}{l:List Dc}{i:Nat}{g:Glob}{Qf:OGP}(hD:DL D l)(hi:i<l.length)(hQ:Qf (.val (.d (.bool (deB (l.take i) l[i])))) g):EvF TT 53 [D,.int .i64 i] g Qf:=by
 have exl:=lel uD hD.ty;have hlen:=hD.len;obtain⟨s2,a2,b2,q2,eg,hs2,ha2,hb2,el⟩:=hD.get hi;refine w53 hD.ty ?_;rw[eg];refine⟨by rw[hlen];exact inB hi,?_⟩;rw[el] at hQ;unfold deB at hQ;simp only at hQ;have hins:InS 0 (i:Int) (elO D).length:=⟨Int.le_refl _,by omega,by omega⟩
 have hsub:=suD hD (Nat.le_of_lt hi);show Br (s2==sIt) _ _;refine Bi.2 ⟨λq=>?_,λq=>⟨hins,dek (s:=s2) hsub hs2 ⟨_,rfl,?_⟩⟩⟩
 ·rw[q] at hQ;exact hQ
 rw[dex];rw[q] at hQ;refine Bi.2 ⟨λq3=>?_,λq3=>?_⟩
 all_goals replace q3:((l.take i).any λe=>e.s==s2)=_:=q3
 ·rw[q3] at hQ;exact hQ
 rw[q3] at hQ;have hps:elO a2=((elO a2).map strOf).map .str:=stE ha2;generalize hpl:(elO a2).map strOf=ps at hQ hps;have eal:=elL hps;have npl:ps.length≤2^40:=by have:=(ha2.els uS).1.1;omega
 have sps:=fre ha2 hps;have eb:=hb2.els uC;have ebl:=eb.1.1;simp only[Bool.false_or] at hQ
 -- constructors
 have third:Qf (.val (.d (.bool (cos (l.take i) [] ((elO b2).map aC))))) g→L53_10 D (i:Int) 0 (.agg [.str s2,a2,b2,.int .i64 q2]) g Qf:=by
  intro hQ;have hQ:Qf (.val (.d (.bool (cos (l.take i) (((elO b2).take 0).map λc=>(aC c).s) (((elO b2).drop 0).map aC))))) g:=by rw[List.drop_zero];exact hQ
  refine lU (len:=(elO b2).length) (λj=>Qf (.val (.d (.bool (cos (l.take i) (((elO b2).take j).map λc=>(aC c).s) (((elO b2).drop j).map aC))))) g→L53_10 D (i:Int) (j:Int) (.agg [.str s2,a2,b2,.int .i64 q2]) g Qf) ?_ ?_ 0 (Nat.zero_le _) hQ
  ·intro hQ;refine w53_10 ?_;rw[show(fld (Dat.agg [.str s2,a2,b2,.int .i64 q2]) 2)=b2 from rfl,Bg];rw[List.drop_length] at hQ;exact hQ
  ·intro j hj ihj hQ;refine w53_10 ?_;rw[show(fld (Dat.agg [.str s2,a2,b2,.int .i64 q2]) 2)=b2 from rfl,Bl hj,geE hj];rw[List.drop_eq_getElem_cons hj,List.map_cons] at hQ;unfold cos at hQ;obtain⟨t3,f3,e3,ht3,tf3⟩:=coy (eb.2 _ (List.getElem_mem hj));have es:(aC (elO b2)[j]).s=t3:=by rw[e3];rfl
   rw[es] at hQ;have hnext:((elO b2).take j).map (λc=>(aC c).s)++[t3]=((elO b2).take (j+1)).map λc=>(aC c).s:=by
    rw[List.take_succ_eq_append_getElem hj,List.map_append,←es];rfl
   rw[hnext] at hQ;refine⟨hins,inB hj,?_⟩;have e4:strOf (fld (elO b2)[j] 0)=t3:=by rw[e3];rfl
   rw[e4];refine rF _ t3 g hsub.ty ht3 _ ⟨_,_,_,⟨rfl,rfl,rfl,trivial⟩,?_⟩;rw[hsub.abs,fiD];refine Bi.2 ⟨λq5=>?_,λq5=>?_⟩
   ·rw[q5] at hQ;exact hQ
   rw[q5,Bool.false_or] at hQ
   -- those ahead in it
   have hQ:Qf (.val (.d (.bool (((((elO b2).take j).drop 0).map λc=>(aC c).s).contains t3||cos (l.take i) (((elO b2).take (j+1)).map λc=>(aC c).s) (((elO b2).drop (j+1)).map aC))))) g:=by
    rw[List.drop_zero];exact hQ
   refine lU (len:=j) (λk=>Qf (.val (.d (.bool (((((elO b2).take j).drop k).map λc=>(aC c).s).contains t3||cos (l.take i) (((elO b2).take (j+1)).map λc=>(aC c).s) (((elO b2).drop (j+1)).map aC))))) g→
    L53_16 D (i:Int) (j:Int) (k:Int) (.agg [.str s2,a2,b2,.int .i64 q2]) g Qf) ?_ ?_ 0 (Nat.zero_le _) hQ
   ·intro hQ;refine w53_16 ?_;rw[Bg,wra (by omega)];have:((elO b2).take j).drop j=[]:=by rw[List.drop_eq_nil_iff,List.length_take];omega
    rw[this] at hQ;exact ihj hQ
   ·intro k hk ihk hQ;refine w53_16 ?_;rw[show(fld (Dat.agg [.str s2,a2,b2,.int .i64 q2]) 2)=b2 from rfl,Bl hk,geE (by omega),geE hj,e4];have hk':k<((elO b2).take j).length:=by rw[List.length_take];omega
    rw[List.drop_eq_getElem_cons hk',List.map_cons,List.contains_cons] at hQ;obtain⟨t6,f6,e6,_⟩:=coy (eb.2 _ (List.getElem_mem (show k<(elO b2).length by omega)));have e7:(aC ((elO b2).take j)[k]).s=t6:=by rw[List.getElem_take,e6];rfl
    rw[e7,bey t3 t6] at hQ;refine⟨inB (by omega),inB hj,?_⟩;rw[show strOf (fld (elO b2)[k] 0)=t6 from by rw[e6];rfl];refine Bi.2 ⟨λq8=>?_,λq8=>?_⟩
    ·rw[q8] at hQ;exact hQ
    ·rw[q8,Bool.false_or] at hQ;rw[wra (by omega)];exact ihk hQ
 -- parameters
 have hQ:Qf (.val (.d (.bool (duS (ps.take 0) (ps.drop 0)||cos (l.take i) [] ((elO b2).map aC))))) g:=hQ;refine lU (len:=ps.length) (λj=>Qf (.val (.d (.bool (duS (ps.take j) (ps.drop j)||cos (l.take i) [] ((elO b2).map aC))))) g→L53_5 D (i:Int) (j:Int) (.agg [.str s2,a2,b2,.int .i64 q2]) g Qf) ?_ ?_ 0 (Nat.zero_le _) hQ
 ·intro hQ;refine w53_5 ?_;rw[show(fld (Dat.agg [.str s2,a2,b2,.int .i64 q2]) 1)=a2 from rfl,eal,Bg];rw[List.drop_length] at hQ;exact third hQ
 ·intro j hj ihj hQ;refine w53_5 ?_;rw[show(fld (Dat.agg [.str s2,a2,b2,.int .i64 q2]) 1)=a2 from rfl,eal,Bl hj,srA hps hj];rw[List.drop_eq_getElem_cons hj] at hQ;unfold duS at hQ;obtain⟨u1,u2⟩:=suT ha2 hps (Nat.le_of_lt hj);refine⟨⟨Int.le_refl _,by omega,by omega⟩,inB hj,amo u1 u2 (sps _ (List.getElem_mem hj)) ⟨_,rfl,Bi.2 ⟨λq=>?_,λq=>?_⟩⟩⟩
  ·rw[q] at hQ;exact hQ
  ·rw[q,Bool.false_or,←List.take_succ_eq_append_getElem hj] at hQ;rw[wra (by omega)];exact ihj hQ
theorem fel:∀(n:Nat) {x A D:Dat} {l:List Dc} {ps:List Str} {g:Glob} {Qf:OGP},SizeOf.sizeOf x<n→Ha TT 61 x→Ha TT 82 A→elO A=ps.map .str→DL D l→Qf (.val (.d (.bool (tyd l ps (aT x))))) g→EvF TT 54 [D,A,x] g Qf
 |0,x,A,D,l,ps,g,Qf,hsz,_,_,_,_,_=>by omega
 |n+1,x,A,D,l,ps,g,Qf,hsz,hx,hA,eA,hD,hQ=>by
  obtain⟨k1,s1,v1,a1,rfl,hs1,t1⟩:=tpe hx;have ex:=t1.els uT;have exl:=ex.1.1;have hc:=sO (cs:=[.int .i64 k1,.str s1,.int .i64 v1,a1]) (c:=a1) (by simp);have e1:tyd l ps (aT (.agg [.int .i64 k1,.str s1,.int .i64 v1,a1]))=(bif k1==2 then ps.contains s1 else bif k1==4 then(match dcP s1 l with|none=>false|some m=>m==(elO a1).length&&tye l ps (((elO a1).drop 0).map aT)) else tye l ps (((elO a1).drop 0).map aT)):=by
   simp only[aT,tyd,ay,List.length_map,List.drop_zero];rfl
  rw[e1] at hQ;have loop:Qf (.val (.d (.bool (tye l ps (((elO a1).drop 0).map aT))))) g→L54_9 D A 0 (.agg [.int .i64 k1,.str s1,.int .i64 v1,a1]) g Qf:=by
   intro hQ;refine lU (len:=(elO a1).length) (λi=>Qf (.val (.d (.bool (tye l ps (((elO a1).drop i).map aT))))) g→L54_9 D A (i:Int) (.agg [.int .i64 k1,.str s1,.int .i64 v1,a1]) g Qf) ?_ ?_ 0 (Nat.zero_le _) hQ
   ·intro hQ;refine w54_9 ?_;rw[show(fld (Dat.agg [.int .i64 k1,.str s1,.int .i64 v1,a1]) 3)=a1 from rfl,Bg];rw[List.drop_length] at hQ;exact hQ
   ·intro i hi ih hQ;refine w54_9 ?_;rw[show(fld (Dat.agg [.int .i64 k1,.str s1,.int .i64 v1,a1]) 3)=a1 from rfl,Bl hi,geE hi];rw[List.drop_eq_getElem_cons hi,List.map_cons] at hQ;unfold tye at hQ;have hsz':=siz hi;refine⟨inB hi,fel n (by omega) (ex.2 _ (List.getElem_mem hi)) hA eA hD ⟨_,rfl,Bi.2 ⟨λq=>?_,λq=>?_⟩⟩⟩
    ·have q:tyd l ps (aT (elO a1)[i])=false:=by simpa using q
     rw[q] at hQ;exact hQ
    ·have q:tyd l ps (aT (elO a1)[i])=true:=by simpa using q
     rw[q,Bool.true_and] at hQ;rw[wra (by omega)];exact ih hQ
  refine w54 hD.ty hA hx ?_;show Br (k1==2) _ (Br (k1==4) _ _);refine Bi.2 ⟨λq=>amo hA eA hs1 ⟨_,rfl,?_⟩,λq=>Bi.2 ⟨λq2=>dek (s:=s1) hD hs1 ⟨_,rfl,?_⟩,λq2=>loop ?_⟩⟩
  ·rw[q] at hQ;exact hQ
  ·rw[q,q2] at hQ;rcases deI s1 l 0 with ⟨i,d',e',hi,hp⟩|⟨e',hp⟩
   ·rw[hp] at hQ;have e':dI s1 l 0=((0+i:Nat):Int):=e';rw[Nat.zero_add] at e';rw[e'];have hlt:i<l.length:=(List.getElem?_eq_some_iff.1 hi).1;obtain⟨s4,a4,b4',p4,eg,_,ha4,_,el⟩:=hD.get hlt;refine brF (by simp) ⟨by rw[hD.len];exact inB hlt,?_⟩;rw[eg];have hl4:d'.ps.length=(elO a4).length:=by
     rw[List.getElem?_eq_getElem hlt] at hi;cases hi;rw[el];simp
    simp only[cond_true,cond_false,hl4] at hQ;show Br (((elO a4).length:Int)!=((elO a1).length:Int)) _ _;refine Bi.2 ⟨λq5=>?_,λq5=>loop ?_⟩
    ·have:((elO a4).length==(elO a1).length)=false:=by
      rw[beq_eq_false_iff_ne];intro e;rw[e] at q5;simp at q5
     rw[this] at hQ;exact hQ
    ·have:((elO a4).length==(elO a1).length)=true:=by
      have:((elO a4).length:Int)=(elO a1).length:=by simpa using q5
      rw[beq_iff_eq];omega
     rw[this] at hQ;exact hQ
   ·rw[hp] at hQ;have e':dI s1 l 0=-1:=e';rw[e'];exact brT (by decide) hQ
  ·rw[q,q2] at hQ;exact hQ
end Go.Proofs.YtiheejdkkjfenaaGreatDoor.Pa
namespace Go.Proofs.YtiheejdkkjfenaaGreatDoor.Pa
open Go Go.Proofs.YtiheejdkkjfenaaGreatDoor.Am
theorem gpa{g:Glob}{i o:Nat}{cs:List GV}{x:Dat}(hb:g.boxes[i]?=some (.cells cs))(ho:o<cs.length)(h1:x.one=true):Gu g i o 1∧gp g i o x={g with boxes:=g.boxes.set i (.cells (cs.set o (.d x)))}:=by
 refine⟨⟨_,hb,by omega⟩,?_⟩;have hc:x.cells=[x]:=by cases x<;>first|rfl|cases h1
 unfold gp;rw[hb,hc];rfl
def LkB(g:Glob)(p:Nat)(D:Dat)(a c:Int):Prop:=g.boxes[p]?=some (.cells [.d D,.d (.int .i64 a),.d (.int .i64 c)])
def LkR(g:Glob)(p:Nat)(D:Dat):Option Int→Prop
 |some q=>LkB g p D q 140
 |none=>LkB g p D 0 0
theorem LkR.boxes{g g':Glob}{p:Nat}{D:Dat}{r:Option Int}(h:LkR g p D r)(e:g'.boxes=g.boxes):LkR g' p D r:=by
 cases r<;>(unfold LkR LkB at*;rw[e];exact h)
theorem LkR.code{g:Glob}{p:Nat}{D:Dat}{r:Option Int}(h:LkR g p D r):GOk TT 3 g p 2 (.int .i64 (match r with|some _=>140|none=>0)):=by
 cases r<;>exact gok uI siI rfl h rfl
theorem LkR.decls{g:Glob}{p:Nat}{D:Dat}{r:Option Int}(h:LkR g p D r):GOk TT 22 g p 0 D:=by
 cases r<;>exact gok uD sD rfl h rfl
theorem bao{g:Glob}{p:Nat}{D:Dat}{q:Int}{Qf:OGP}(h:LkR g p D none)(hQ:∀g',LkR g' p D (some q)→g'.toks=g.toks→Qf (.val (.tuple [])) g'):EvF TT 90 [.ptr (some (p,0)),.int .i64 q] g Qf:=by
 have h':g.boxes[p]?=some (.cells [.d D,.d (.int .i64 0),.d (.int .i64 0)]):=h;have hlt:=(List.getElem?_eq_some_iff.1 h').1;obtain⟨a1,a2⟩:=gpa (o:=2) (x:=.int .i64 140) h' (by simp) rfl;have h2:({g with boxes:=g.boxes.set p (.cells [.d D,.d (.int .i64 0),.d (.int .i64 140)])}:Glob).boxes[p]?=some (.cells [.d D,.d (.int .i64 0),.d (.int .i64 140)]):=by simp only;rw[List.getElem?_set_self hlt]
 have a2:gp g p 2 (.int .i64 140)={g with boxes:=g.boxes.set p (.cells [.d D,.d (.int .i64 0),.d (.int .i64 140)])}:=a2;obtain⟨b1,b2⟩:=gpa (o:=1) (x:=.int .i64 q) h2 (by simp) rfl;refine w90 ⟨0,h.code,brT rfl ⟨a1,?_⟩⟩;rw[a2];refine⟨b1,?_⟩;rw[b2];refine hQ _ ?_ rfl;show _=some (GBo.cells [.d D,.d (.int .i64 q),.d (.int .i64 140)]);simp only;rw[List.getElem?_set_self (by simp;exact hlt)];rfl
theorem cnk{g:Glob}{p m:Nat}{D:Dat}{l:List Dc}{s:Str}{q:Int}{Qf:OGP}(hD:DL D l)(h:LkR g p D none)(hs:s.length≤2^40)(hT:coO l s m=true→Qf (.val (.tuple [])) g)(hF:coO l s m=false→∀g',LkR g' p D (some q)→g'.toks=g.toks→Qf (.val (.tuple [])) g'):
 EvF TT 93 [.ptr (some (p,0)),.str s,.int .i64 m,.int .i64 q] g Qf:=by
 refine w93 hs ⟨D,hD.ty,h.decls,rF D s g hD.ty hs _ ?_⟩;rw[hD.abs];rcases fid s l 0 with ⟨i,j,d,c,e,hi,hj,hf⟩|⟨e,hf⟩
 ·rw[e,Int.zero_add];have hlt:i<l.length:=(List.getElem?_eq_some_iff.1 hi).1;obtain⟨s4,a4,b4,p4,eg,_,_,hb4,el⟩:=hD.get hlt;rw[List.getElem?_eq_getElem hlt] at hi;have hd:d=⟨s4,(elO a4).map strOf,(elO b4).map aC,p4⟩:=by rw[←el];exact(Option.some.inj hi).symm
  subst hd;have hj:((elO b4).map aC)[j]?=some c:=hj;have hjl:j<(elO b4).length:=by have:=(List.getElem?_eq_some_iff.1 hj).1;rwa [List.length_map] at this
  rw[List.getElem?_map,List.getElem?_eq_getElem hjl] at hj;have hc:aC (elO b4)[j]=c:=by simpa using hj
  refine⟨_,_,_,⟨rfl,rfl,rfl,trivial⟩,⟨D,hD.ty,h.decls,by rw[hD.len];exact inB hlt,?_⟩⟩;rw[eg];show InB (j:Int) (elO b4).length∧Br (((elO (fld (gtE (elO b4) (j:Int)) 1)).length:Int)!=(m:Int)) _ _;rw[geE hjl];have hfs:c.fs.length=(elO (fld (elO b4)[j] 1)).length:=by rw[←hc,abn]
  have hco:(((elO (fld (elO b4)[j] 1)).length:Int)!=(m:Int))=!coO l s m:=by
   unfold coO;rw[hf,hfs,Bool.eq_iff_iff];simp;omega
  rw[hco];refine⟨inB hjl,Bi.2 ⟨λq5=>bao h λg' h' ht=>⟨trivial,hF (by simpa using q5) g' h' ht⟩,λq5=>hT (by simpa using q5)⟩⟩
 ·rw[e];have hco:coO l s m=false:=by unfold coO;rw[hf];rfl
  exact⟨_,_,_,⟨rfl,rfl,rfl,trivial⟩,bao h λg' h' ht=>⟨trivial,hF hco g' h' ht⟩⟩
theorem okv{s:Str}{n l:Int}(h:oPt 2 s n l=true):l=0:=by
 have h:(ww s&&((n==0)&&(l==0)))=true:=h;simp only[Bool.and_eq_true,beq_iff_eq] at h;exact h.2.2
theorem okm{l:List Pt}{i:Nat}{x:Pt}(h:oP l=true)(hi:l[i]?=some x):okt x=true:=by
 induction l generalizing i with
 |nil=>simp at hi
 |cons y l ih=>
  unfold oP at h;rw[Bool.and_eq_true] at h;cases i with
  |zero=>simp at hi;subst hi;exact h.1
  |succ i=>exact ih h.2 (by simpa using hi)
def PSt(g:Glob)(p:Nat)(D:Dat)(ns:List Str):PR→Prop
 |.bad q=>LkR g p D (some q)
 |.ok r=>LkR g p D none∧ns=r
theorem pak{g:Glob}{p:Nat}{D x X:Dat}{q:Int}{Qf:OGP}(hx:Ha TT 52 x)(hX:Ha TT 82 X)(h:LkR g p D (some q))(hQ:∀v,Rt v X→Qf (.val v) g):EvF TT 92 [.ptr (some (p,0)),x,X] g Qf:=
 w92 hx hX ⟨140,h.code,brT rfl hQ⟩
theorem pto:∀(n:Nat) {x D X:Dat} {l:List Dc} {ns:List Str} {p b:Nat} {g:Glob} {Qf:OGP},SizeOf.sizeOf x<n→Ha TT 52 x→okt (aP x)=true→DL D l→LkR g p D none→Gr b g X ns→b≤g.toks.length→(∀s∈ns,s.length≤2^40)→ns.length+sPt (aP x)≤2^29→
 (∀v X' ns' g',Rt v X'→Gr b g' X' ns'→b≤g'.toks.length→(∀s∈ns',s.length≤2^40)→ns'.length≤ns.length+sPt (aP x)→PSt g' p D ns' (ptF l (aP x) ns)→Qf (.val v) g')→EvF TT 92 [.ptr (some (p,0)),x,X] g Qf
 |0,x,D,X,l,ns,p,b,g,Qf,hsz,_,_,_,_,_,_,_,_,_=>by omega
 |n+1,x,D,X,l,ns,p,b,g,Qf,hsz,hx,hok,hD,hlk,hg,hbt,hs,hn,hQ=>by
  obtain⟨k1,s1,v1,a1,q1,rfl,hs1,t1⟩:=ptt hx;have ex:=t1.els uP;have exl:=ex.1.1;have hc:=sO (cs:=[.int .i64 k1,.str s1,.int .i64 v1,a1,.int .i64 q1]) (c:=a1) (by simp);have e1:ptF l (aP (.agg [.int .i64 k1,.str s1,.int .i64 v1,a1,.int .i64 q1])) ns=(bif k1==2 then(bif ns.contains s1 then .bad q1 else pF l (((elO a1).drop 0).map aP) (ns++[s1])) else bif k1==4&&!(coO l s1 (elO a1).length) then .bad q1 else pF l (((elO a1).drop 0).map aP) ns):=by
   simp only[aP,ptF,abP,List.length_map,List.drop_zero]
  have e2:sPt (aP (.agg [.int .i64 k1,.str s1,.int .i64 v1,a1,.int .i64 q1]))=1+szP (((elO a1).drop 0).map aP):=by simp only[aP,sPt,abP,List.drop_zero]
  have e3:oPt k1 s1 v1 (elO a1).length=true∧oP ((elO a1).map aP)=true:=by
   have h:okt (.mk k1 s1 v1 (abt a1) q1)=true:=hok;unfold okt at h;rw[Bool.and_eq_true,abP,List.length_map] at h;exact h
  rw[e1,e2] at hQ;rw[e2] at hn;have hX:=hg.ty (by omega) hs;have loop:∀(i:Nat),i≤(elO a1).length→∀{R:PR} {X:Dat} {ns0:List Str} {g0:Glob},((∃q,R=.bad q∧LkR g0 p D (some q))∨(LkR g0 p D none∧R=pF l (((elO a1).drop i).map aP) ns0))→Gr b g0 X ns0→b≤g0.toks.length→(∀s∈ns0,s.length≤2^40)→ns0.length+szP (((elO a1).drop i).map aP)≤ns.length+(1+szP (((elO a1).drop 0).map aP))→
   (∀v X' ns' g',Rt v X'→Gr b g' X' ns'→b≤g'.toks.length→(∀s∈ns',s.length≤2^40)→ns'.length≤ns.length+(1+szP (((elO a1).drop 0).map aP))→PSt g' p D ns' R→Qf (.val v) g')→L92_11 p X (i:Int) (.agg [.int .i64 k1,.str s1,.int .i64 v1,a1,.int .i64 q1]) g0 Qf:=by
   refine lU (len:=(elO a1).length) _ ?_ ?_
   ·intro R X ns0 g0 hR hg hbt hs hn hQ;refine w92_11 ?_;rw[show(fld (Dat.agg [.int .i64 k1,.str s1,.int .i64 v1,a1,.int .i64 q1]) 3)=a1 from rfl,Bg];intro v hv;refine hQ v X ns0 g0 hv hg hbt hs (by omega) ?_;rcases hR with ⟨q,rfl,h⟩|⟨h,e⟩
    ·exact h
    ·rw[List.drop_length] at e;subst e;exact⟨h,rfl⟩
   ·intro i hi ih R X ns0 g0 hR hg hbt hs hn' hQ;refine w92_11 ?_;rw[show(fld (Dat.agg [.int .i64 k1,.str s1,.int .i64 v1,a1,.int .i64 q1]) 3)=a1 from rfl,Bl hi,geE hi];have h1:=siz hi;have htx:=ex.2 _ (List.getElem_mem hi);have hsp:szP (((elO a1).drop i).map aP)=sPt (aP (elO a1)[i])+szP (((elO a1).drop (i+1)).map aP):=szt hi;have hX0:=hg.ty (by omega) hs;refine⟨inB hi,?_⟩;rcases hR with ⟨q,rfl,h⟩|⟨h,e⟩
    ·refine pak htx hX0 h λv hv=>⟨X,hX0,hv,?_⟩
     rw[wra (by omega)];exact ih (.inl ⟨q,rfl,h⟩) hg hbt hs (by omega) hQ
    ·have hoki:okt (aP (elO a1)[i])=true:=okm (i:=i) e3.2 (by rw[List.getElem?_map,List.getElem?_eq_getElem hi];rfl);refine pto n (by omega) htx hoki hD h hg hbt hs (by omega) λv X' ns' g' hv hg' hbt' hs' hn2 hP=>⟨X',hg'.ty (by omega) hs',hv,?_⟩
     rw[wra (by omega)];refine ih ?_ hg' hbt' hs' (by omega) hQ;rw[List.drop_eq_getElem_cons hi,List.map_cons] at e;unfold pF at e;cases hr:ptF l (aP (elO a1)[i]) ns0 with
     |bad q=>
      rw[hr] at hP e;exact .inl ⟨q,e,hP⟩
     |ok r=>
      rw[hr] at hP e;obtain⟨hP,rfl⟩:=hP;exact .inr ⟨hP,e⟩
  refine w92 hx hX ⟨0,hlk.code,brF rfl ?_⟩;show Br (k1==2) _ (Br (k1==4) _ _);refine Bi.2 ⟨λq=>amo hX hg.els hs1 ⟨_,rfl,Bi.2 ⟨λq3=>bao hlk λg1 h1 ht=>⟨trivial,?_⟩,λq3=>?_⟩⟩,λq=>Bi.2 ⟨λq2=>?_,λq2=>?_⟩⟩
  ·replace q3:ns.contains s1=true:=q3
   rw[q,q3] at hQ;have hg1:=hg.toks ht;obtain⟨r,g2,r1,r2,r3⟩:=hg1.app (by rw[ht];exact hbt) s1;refine⟨fiS (by rw[elL hg.els];simp only[List.length_cons,List.length_nil];omega),r,g2,r1,λv hv=>hQ v r (ns++[s1]) g2 hv r2 (Nat.le_trans (by rw[ht];exact hbt) r3.len) (λs h=>?_) (by simp only[List.length_append,List.length_cons,List.length_nil];omega) ?_⟩
   ·rcases List.mem_append.1 h with h|h
    ·exact hs s h
    ·rw[List.mem_singleton] at h;subst h;exact hs1
   ·exact h1.boxes r3.boxes
  ·replace q3:ns.contains s1=false:=q3
   rw[q,q3] at hQ;have hl0:(elO a1).length=0:=by
    have:=e3.1;rw[beq_iff_eq.1 q] at this;have:=okv this;omega
   have hnil:elO a1=[]:=List.eq_nil_of_length_eq_zero hl0;obtain⟨r,g2,r1,r2,r3⟩:=hg.app hbt s1;refine⟨fiS (by rw[elL hg.els];simp only[List.length_cons,List.length_nil];omega),r,g2,r1,λv hv=>hQ v r (ns++[s1]) g2 hv r2 (Nat.le_trans hbt r3.len) (λs h=>?_) (by simp only[List.length_append,List.length_cons,List.length_nil];omega) ?_⟩
   ·rcases List.mem_append.1 h with h|h
    ·exact hs s h
    ·rw[List.mem_singleton] at h;subst h;exact hs1
   ·rw[hnil];exact⟨hlk.boxes r3.boxes,rfl⟩
  ·rw[q,q2] at hQ;refine cnk (m:=(elO a1).length) hD hlk hs1 (λh=>⟨trivial,?_⟩) λh g' h' ht=>⟨trivial,?_⟩
   ·replace h:coO l s1 (elO a1).length=_:=h
    rw[h] at hQ;exact loop 0 (Nat.zero_le _) (.inr ⟨hlk,rfl⟩) hg hbt hs (by omega) hQ
   ·replace h:coO l s1 (elO a1).length=_:=h
    rw[h] at hQ;exact loop 0 (Nat.zero_le _) (.inl ⟨q1,rfl,h'⟩) (hg.toks ht) (by rw[ht];exact hbt) hs (by omega) hQ
  ·rw[q,q2] at hQ;exact loop 0 (Nat.zero_le _) (.inr ⟨hlk,rfl⟩) hg hbt hs (by omega) hQ
end Go.Proofs.YtiheejdkkjfenaaGreatDoor.Pa
namespace Go.Proofs.YtiheejdkkjfenaaGreatDoor.Pa
open Go Go.Proofs.YtiheejdkkjfenaaGreatDoor.Am
theorem oEl{k:Int}{s r:Str}{n la lb:Int}(h:oEx k s r n la lb=true):((k==3)=true→la=1)∧((k==5)=true→la=2)∧((k==6)=true→la=2)∧((k==1)=true→la=0):=by
 unfold oEx at h;cases q:(!(k==6)&&!(r==[]))||((!(k==2)&&!(n==0))||(!(k==7)&&pA0 lb)) with
 |true=>rw[q] at h;cases h
 |false=>
  rw[q,cond_false] at h;refine⟨λe=>?_,λe=>?_,λe=>?_,λe=>?_⟩<;>(rw[beq_iff_eq] at e;subst e;simp at h;omega)
theorem exk{g:Glob}{p:Nat}{D x X:Dat}{q:Int}{Qf:OGP}(hx:Ha TT 26 x)(hX:Ha TT 82 X)(h:LkR g p D (some q))(hQ:Qf (.val (.tuple [])) g):EvF TT 55 [.ptr (some (p,0)),x,X] g Qf:=
 w55 hx hX ⟨140,h.code,brT rfl hQ⟩
def LkS(g:Glob)(p:Nat)(D:Dat)(l:List Dc)(nm:Nat→PR)(xs:List Ex')(i:Nat)(bd:List Str)(R:Option Int):Prop:=(∃q,R=some q∧LkR g p D (some q))∨(LkR g p D none∧R=eF l nm xs i bd)
theorem LkS.fin{g:Glob}{p:Nat}{D:Dat}{l:List Dc}{nm:Nat→PR}{i:Nat}{bd:List Str}{R:Option Int}(h:LkS g p D l nm [] i bd R):LkR g p D R:=by
 rcases h with ⟨q,rfl,h⟩|⟨h,e⟩
 ·exact h
 ·rw[e];exact h
theorem ons(s:Str):[Dat.str s]=([s]:List Str).map .str:=rfl
theorem tws(s r:Str):[Dat.str s,Dat.str r]=([s,r]:List Str).map .str:=rfl
theorem nas(l:List Dc)(k:Int)(s r:Str)(b:List Pt)(i:Nat)(ns:List Str)(h:nam l k s r b i=.ok ns):ns.length≤2+szP b:=by
 unfold nam at h;cases q:k==7&&decide (0<i) with
 |false=>
  rw[q] at h;cases h;exact bid ..
 |true=>
  rw[q,cond_true] at h;cases e:b[i-1]? with
  |none=>rw[e] at h;cases h;simp
  |some x=>
   rw[e] at h;have h1:=paF l x [] ns h;have h2:=szs e;simp only[List.length_nil] at h1;omega
theorem exo:∀(n:Nat) {x D X:Dat} {l:List Dc} {bd:List Str} {p:Nat} {g:Glob} {Qf:OGP},SizeOf.sizeOf x<n→Ha TT 26 x→okE (ax x)=true→DL D l→LkR g p D none→Ha TT 82 X→elO X=bd.map .str→
 bd.length+2*szx (ax x)≤2^28→(∀g',LkR g' p D (exF l (ax x) bd)→Qf (.val (.tuple [])) g')→EvF TT 55 [.ptr (some (p,0)),x,X] g Qf
 |0,x,D,X,l,bd,p,g,Qf,hsz,_,_,_,_,_,_,_,_=>by omega
 |n+1,x,D,X,l,bd,p,g,Qf,hsz,hx,hok,hD,hlk,hX,eX,hn,hQ=>by
  obtain⟨k1,s1,r1,v1,a1,b1,q1,rfl,hs1,hr1,t1,u1⟩:=exr hx;have ex:=t1.els unE;have exl:=ex.1.1;have eu:=u1.els uP;have eul:=eu.1.1;have hc:=sO (cs:=[.int .i64 k1,.str s1,.str r1,.int .i64 v1,a1,b1,.int .i64 q1]) (c:=a1) (by simp);have e1:exF l (ax (.agg [.int .i64 k1,.str s1,.str r1,.int .i64 v1,a1,b1,.int .i64 q1])) bd=(bif k1==1&&!(bd.contains s1) then some q1 else bif k1==8&&!(coO l s1 (elO a1).length) then some q1 else eF l (nam l k1 s1 r1 ((elO b1).map aP)) (((elO a1).drop 0).map ax) 0 bd):=by
   simp only[ax,exF,abP,abE,List.length_map,List.drop_zero]
  have e2:szx (ax (.agg [.int .i64 k1,.str s1,.str r1,.int .i64 v1,a1,b1,.int .i64 q1]))=1+szP ((elO b1).map aP)+szE (((elO a1).drop 0).map ax):=by simp only[ax,szx,abP,abE,List.drop_zero]
  have e3:oEx k1 s1 r1 v1 (elO a1).length (elO b1).length=true∧oP ((elO b1).map aP)=true∧okx ((elO a1).map ax)=true:=by
   have h:okE (.mk k1 s1 r1 v1 (abx a1) (abt b1) q1)=true:=hok;unfold okE at h;rw[Bool.and_eq_true,Bool.and_eq_true,abE,abP,List.length_map,List.length_map] at h;exact h
  obtain⟨l3,l5,l6,l1⟩:=oEl e3.1;rw[e1] at hQ;rw[e2] at hn;generalize hN:nam l k1 s1 r1 ((elO b1).map aP)=N at hQ
  -- one of the parts
  have arg:∀(i:Nat),i<(elO a1).length→∀{R:Option Int} {g0:Glob} {Y:Dat} {ns:List Str} {Qg:OGP},(∃q,R=some q∧LkR g0 p D (some q))∨(LkR g0 p D none∧N i=.ok ns∧elO Y=(bd++ns).map .str∧R=eF l N (((elO a1).drop i).map ax) i bd)→Ha TT 82 Y→
   (∀g',LkS g' p D l N (((elO a1).drop (i+1)).map ax) (i+1) bd R→Qg (.val (.tuple [])) g')→EvF TT 55 [.ptr (some (p,0)),gtE (elO a1) (i:Int),Y] g0 Qg:=by
   intro i hi R g0 Y ns Qg hS hY hQg;rw[geE hi];have h1:=siz hi;have htx:=ex.2 _ (List.getElem_mem hi);rcases hS with ⟨q,rfl,h⟩|⟨h,h',eY,e⟩
   ·exact exk htx hY h (hQg g0 (.inl ⟨q,rfl,h⟩))
   ·rw[List.drop_eq_getElem_cons hi,List.map_cons] at e;unfold eF at e;rw[h'] at e;have hmem:szx (ax (elO a1)[i])≤szE (((elO a1).drop 0).map ax):=szm (i:=i) (by rw[List.drop_zero,List.getElem?_map,List.getElem?_eq_getElem hi];rfl);have hoki:okE (ax (elO a1)[i])=true:=oke (i:=i) e3.2.2 (by rw[List.getElem?_map,List.getElem?_eq_getElem hi];rfl);have hnl:ns.length≤2+szP ((elO b1).map aP):=nas l k1 s1 r1 _ i ns (by rw[hN];exact h');refine exo n (by omega) htx hoki hD h hY eY (by rw[List.length_append];omega) λg' h'=>hQg g' ?_
    replace e:R=match exF l (ax (elO a1)[i]) (bd++ns) with|some p=>some p|none=>eF l N (((elO a1).drop (i+1)).map ax) (i+1) bd:=e
    cases hr:exF l (ax (elO a1)[i]) (bd++ns) with
    |some q=>
     rw[hr] at e h';exact .inl ⟨q,e,h'⟩
    |none=>
     rw[hr] at e h';exact .inr ⟨h',e⟩
  -- with the names that it binds
  have argB:∀(i:Nat),i<(elO a1).length→∀{R:Option Int} {g0:Glob} {Y:Dat} {ns:List Str} {Qg:OGP},LkS g0 p D l N (((elO a1).drop i).map ax) i bd R→N i=.ok ns→elO Y=(bd++ns).map .str→Ha TT 82 Y→
    (∀g',LkS g' p D l N (((elO a1).drop (i+1)).map ax) (i+1) bd R→Qg (.val (.tuple [])) g')→EvF TT 55 [.ptr (some (p,0)),gtE (elO a1) (i:Int),Y] g0 Qg:=by
   intro i hi R g0 Y ns Qg hS hNi eY hY hQg;refine arg i hi (ns:=ns) ?_ hY hQg;rcases hS with h|⟨h,e⟩
   ·exact .inl h
   ·exact .inr ⟨h,hNi,eY,e⟩
  have eX0:elO X=(bd++[]).map .str:=by rw[List.append_nil];exact eX
  have wth:∀{g0:Glob} {ks:List Str} {Qg:OGP},ks.length≤2→(∀s∈ks,s.length≤2^40)→(∀v z,Rt v z→Ha TT 82 z→elO z=(bd++ks).map .str→Qg (.val v) g0)→EvF TT 91 [X,.sl 1 (ks.map .str)] g0 Qg:=
   λh1 h2 h3=>wih hX eX (srs (by omega) h2) rfl (by omega) h3
  have Nn:∀i,(k1==7)=false→N i=.ok (bn k1 s1 r1 ((elO b1).map aP) i):=by
   intro i h;rw[←hN];unfold nam;rw[h];rfl
  -- what has no names of its own
  have L6:∀(i:Nat),i≤(elO a1).length→∀{R:Option Int} {g0:Glob} {Qg:OGP},(∀j,N j=.ok [])→LkS g0 p D l N (((elO a1).drop i).map ax) i bd R→(∀g',LkR g' p D R→Qg (.val (.tuple [])) g')→
    L55_6 p X (i:Int) (.agg [.int .i64 k1,.str s1,.str r1,.int .i64 v1,a1,b1,.int .i64 q1]) g0 Qg:=by
   refine lU (len:=(elO a1).length) _ ?_ ?_
   ·intro R g0 Qg hN0 hS hQg;refine w55_6 ?_;rw[show(fld (Dat.agg [.int .i64 k1,.str s1,.str r1,.int .i64 v1,a1,b1,.int .i64 q1]) 4)=a1 from rfl,Bg];rw[List.drop_length] at hS;exact hQg g0 hS.fin
   ·intro i hi ih R g0 Qg hN0 hS hQg;refine w55_6 ?_;rw[show(fld (Dat.agg [.int .i64 k1,.str s1,.str r1,.int .i64 v1,a1,b1,.int .i64 q1]) 4)=a1 from rfl,Bl hi];refine⟨inB hi,argB i hi hS (hN0 i) eX0 hX λg' hS'=>⟨trivial,?_⟩⟩;rw[wra (by omega)];exact ih hN0 hS' hQg
  -- the arms
  have L23:(k1==7)=true→(elO a1).length=(elO b1).length+1→∀(i:Nat),i≤(elO b1).length→∀{R:Option Int} {g0:Glob} {Qg:OGP},LkS g0 p D l N (((elO a1).drop (i+1)).map ax) (i+1) bd R→(∀g',LkR g' p D R→Qg (.val (.tuple [])) g')→
    L55_23 p X (i:Int) (.agg [.int .i64 k1,.str s1,.str r1,.int .i64 v1,a1,b1,.int .i64 q1]) g0 Qg:=by
   intro h7 hl;refine lU (len:=(elO b1).length) _ ?_ ?_
   ·intro R g0 Qg hS hQg;refine w55_23 ?_;rw[show(fld (Dat.agg [.int .i64 k1,.str s1,.str r1,.int .i64 v1,a1,b1,.int .i64 q1]) 5)=b1 from rfl,Bg];rw[←hl,List.drop_length] at hS;exact hQg g0 hS.fin
   ·intro i hi ih R g0 Qg hS hQg;refine w55_23 ?_;rw[show(fld (Dat.agg [.int .i64 k1,.str s1,.str r1,.int .i64 v1,a1,b1,.int .i64 q1]) 5)=b1 from rfl,show(fld (Dat.agg [.int .i64 k1,.str s1,.str r1,.int .i64 v1,a1,b1,.int .i64 q1]) 4)=a1 from rfl,Bl hi,geE hi,wra (by omega)];have htp:=eu.2 _ (List.getElem_mem hi);have hNi:N (i+1)=ptF l (aP (elO b1)[i]) []:=by
     rw[←hN];unfold nam;rw[h7,List.getElem?_map,show i+1-1=i from rfl,List.getElem?_eq_getElem hi];simp
    have hmp:sPt (aP (elO b1)[i])≤szP ((elO b1).map aP):=szs (i:=i) (by rw[List.getElem?_map,List.getElem?_eq_getElem hi];rfl);have hokp:okt (aP (elO b1)[i])=true:=okm (i:=i) e3.2.1 (by rw[List.getElem?_map,List.getElem?_eq_getElem hi];rfl);have hi1:i+1<(elO a1).length:=by omega
    refine⟨inB hi,?_⟩;rcases hS with ⟨q,rfl,h⟩|⟨h,e⟩
    ·refine pak htp stn h λv hv=>⟨.nil,stn,hv,inB hi1,?_⟩
     refine wih hX eX stn (k:=[]) rfl (by simp only[List.length_nil];omega) λv z hv hz ez=>⟨z,hz,hv,?_⟩
     refine arg (i+1) hi1 (ns:=[]) (.inl ⟨q,rfl,h⟩) hz λg' hS'=>⟨trivial,ih hS' hQg⟩
    ·refine pto (b:=g0.toks.length) _ (Nat.lt_succ_self _) htp hokp hD h (Gr.nil _ _) (Nat.le_refl _) (λs h=>by cases h) (by simp only[List.length_nil];omega) λv X' ns' g' hv hg' _ hs' hl' hP=>⟨X',hg'.ty (by simp only[List.length_nil] at hl';omega) hs',hv,inB hi1,?_⟩
     simp only[List.length_nil] at hl';refine wih hX eX (hg'.ty (by omega) hs') hg'.els (by omega) λv z hv hz ez=>⟨z,hz,hv,?_⟩
     refine arg (i+1) hi1 (ns:=ns') ?_ hz λg' hS'=>⟨trivial,ih hS' hQg⟩
     cases hr:ptF l (aP (elO b1)[i]) [] with
     |bad q=>
      rw[hr] at hP hNi;refine .inl ⟨q,?_,hP⟩;rw[e,List.drop_eq_getElem_cons hi1,List.map_cons];unfold eF;rw[hNi]
     |ok r=>
      rw[hr] at hP hNi;obtain⟨hP,rfl⟩:=hP;exact .inr ⟨hP,hNi,ez,e⟩
  refine w55 hx hX ⟨0,hlk.code,brF rfl ?_⟩;show Br (k1==1) _ (Br (k1==3) _ (Br (k1==5) _ (Br (k1==6) _ (Br (k1==7) _ (Br (k1==8) _ _)))));refine Bi.2 ⟨λq=>?_,λn1=>Bi.2 ⟨λq=>?_,λn3=>Bi.2 ⟨λq=>?_,λn5=>Bi.2 ⟨λq=>?_,λn6=>Bi.2 ⟨λq=>?_,λn7=>Bi.2 ⟨λq=>?_,λn8=>?_⟩⟩⟩⟩⟩⟩
  ·have h0:=l1 q;have hnil:elO a1=[]:=List.eq_nil_of_length_eq_zero (by omega);have q8:(k1==8)=false:=by rw[beq_iff_eq.1 q];rfl
   rw[q,q8,hnil] at hQ;refine amo hX eX hs1 ⟨_,rfl,Bi.2 ⟨λq3=>bao hlk λg1 h1 ht=>⟨trivial,hQ g1 ?_⟩,λq3=>hQ g ?_⟩⟩
   ·replace q3:(!bd.contains s1)=true:=q3
    rw[q3];exact h1
   ·replace q3:(!bd.contains s1)=false:=q3
    rw[q3];exact hlk
  ·rw[beq_iff_eq.1 q] at hQ Nn;have hl:=l3 q;have z:∀g',LkS g' p D l N (((elO a1).drop (0+1)).map ax) (0+1) bd (eF l N (((elO a1).drop 0).map ax) 0 bd)→Qf (.val (.tuple [])) g':=λg' h'=>hQ g' (by
    rw[List.drop_eq_nil_of_le (by omega)] at h';exact h'.fin)
   refine⟨(show InB ((0:Nat):Int) (elO a1).length from inB (by omega)),ons s1▸wth (by simp) (λs h=>by rw[List.mem_singleton] at h;subst h;exact hs1) λv Y hv hY eY=>⟨Y,hY,hv,?_⟩⟩;exact argB 0 (by omega) (.inr ⟨hlk,rfl⟩) (Nn 0 rfl) eY hY λg' h'=>⟨trivial,z g' h'⟩
  ·rw[beq_iff_eq.1 q] at hQ Nn;have hl:=l5 q;have z:∀g',LkS g' p D l N (((elO a1).drop (1+1)).map ax) (1+1) bd (eF l N (((elO a1).drop 0).map ax) 0 bd)→Qf (.val (.tuple [])) g':=λg' h'=>hQ g' (by
    rw[List.drop_eq_nil_of_le (by omega)] at h';exact h'.fin)
   refine⟨(show InB ((0:Nat):Int) (elO a1).length from inB (by omega)),?_⟩;refine argB 0 (by omega) (.inr ⟨hlk,rfl⟩) (Nn 0 rfl) eX0 hX λg1 h1=>⟨trivial,(show InB ((1:Nat):Int) (elO a1).length from inB (by omega)),ons s1▸wth (by simp) (λs h=>by rw[List.mem_singleton] at h;subst h;exact hs1) λv Y hv hY eY=>⟨Y,hY,hv,?_⟩⟩
   exact argB 1 (by omega) h1 (Nn 1 rfl) eY hY λg' h'=>⟨trivial,z g' h'⟩
  ·rw[beq_iff_eq.1 q] at hQ Nn;have hl:=l6 q;have z:∀g',LkS g' p D l N (((elO a1).drop (1+1)).map ax) (1+1) bd (eF l N (((elO a1).drop 0).map ax) 0 bd)→Qf (.val (.tuple [])) g':=λg' h'=>hQ g' (by
    rw[List.drop_eq_nil_of_le (by omega)] at h';exact h'.fin)
   refine⟨(show InB ((0:Nat):Int) (elO a1).length from inB (by omega)),tws s1 r1▸wth (by simp) (λs h=>by simp at h;rcases h with rfl|rfl<;>assumption) λv Y hv hY eY=>⟨Y,hY,hv,?_⟩⟩;refine argB 0 (by omega) (.inr ⟨hlk,rfl⟩) (Nn 0 rfl) eY hY λg1 h1=>⟨trivial,(show InB ((1:Nat):Int) (elO a1).length from inB (by omega)),ons s1▸wth (by simp) (λs h=>by rw[List.mem_singleton] at h;subst h;exact hs1) λv Y hv hY eY=>⟨Y,hY,hv,?_⟩⟩
   exact argB 1 (by omega) h1 (Nn 1 rfl) eY hY λg' h'=>⟨trivial,z g' h'⟩
  ·have q8:(k1==8)=false:=by rw[beq_iff_eq.1 q];rfl
   have hla:=e3.1;rw[beq_iff_eq.1 q] at hla;have hla:=oEc hla;rw[n1,q8] at hQ;have hN0:N 0=.ok []:=by
    rw[←hN,beq_iff_eq.1 q];rfl
   refine⟨(show InB ((0:Nat):Int) (elO a1).length from inB (by omega)),argB 0 (by omega) (.inr ⟨hlk,rfl⟩) hN0 eX0 hX λg1 h1=>⟨trivial,?_⟩⟩;exact L23 q (by omega) 0 (Nat.zero_le _) h1 hQ
  ·have Nz:∀j,N j=.ok []:=λj=>by
    rw[Nn j n7,beq_iff_eq.1 q];rfl
   rw[n1,q] at hQ;refine cnk (m:=(elO a1).length) hD hlk hs1 (λh=>⟨trivial,?_⟩) λh g' h' ht=>⟨trivial,?_⟩
   ·replace h:coO l s1 (elO a1).length=_:=h
    rw[h] at hQ;exact L6 0 (Nat.zero_le _) Nz (.inr ⟨hlk,rfl⟩) hQ
   ·replace h:coO l s1 (elO a1).length=_:=h
    rw[h] at hQ;exact L6 0 (Nat.zero_le _) Nz (.inl ⟨q1,rfl,h'⟩) hQ
  ·have Nz:∀j,N j=.ok []:=λj=>by
    rw[Nn j n7];unfold bn;rw[n3,n5,n6,n7];rfl
   rw[n1,n8] at hQ;exact L6 0 (Nat.zero_le _) Nz (.inr ⟨hlk,rfl⟩) hQ
end Go.Proofs.YtiheejdkkjfenaaGreatDoor.Pa
namespace Go.Proofs.YtiheejdkkjfenaaGreatDoor.Pa
open Go Go.Proofs.YtiheejdkkjfenaaGreatDoor.Am
def pai(a b:Int):Val:=.tuple [.d (.int .i64 a),.d (.int .i64 b)]
theorem rCe{x:Dat}{g:Glob}{Qf:OGP}(hx:Ha TT 28 x)(hp:Pre (abg x))(hQ:∀g',Qf (.val (pai (cA0 (abg x)).1 (cA0 (abg x)).2)) g'):EvF TT 28 [x] g Qf:=by
 refine w28 hx (rCc hx hp ⟨_,rfl,?_⟩);unfold cA0 at hQ;refine Bi.2 ⟨λq=>?_,λq=>?_⟩
 ·have q:rC (abg x)=false:=by simpa using q
  rw[q] at hQ;exact hQ g
 have q:rC (abg x)=true:=by simpa using q
 rw[q] at hQ
 replace hQ:∀g',Qf (.val (pai (chN (abg x)).1 (chN (abg x)).2)) g':=hQ
 obtain⟨f1,f2,f3,f4⟩:=rCh q;refine rAl x g hx (by omega) _ λD hD hDl v hv=>⟨D,hD,hv,?_⟩
 have dl:DL D (alD (abg x)):=⟨hD,hDl⟩
 have t3:(alD (abg x)).take 3=bas.map abD:=rfl;have d3:(alD (abg x)).drop 3=(abg x).ds:=rfl;have len3:3≤(alD (abg x)).length:=by rw[alc];omega
 have lenB:(alD (abg x)).length≤2^30:=by rw[alc];omega
 unfold chN at hQ;rw[←t3,←d3] at hQ;obtain⟨d1,k1,s1,r1,n1,a1,b1,p1,rfl,hd1,he1⟩:=pro hx;have ee:(abg (.agg [d1,.int .i64 k1,.str s1,.str r1,.int .i64 n1,a1,b1,.int .i64 p1])).e=ax (.agg [.int .i64 k1,.str s1,.str r1,.int .i64 n1,a1,b1,.int .i64 p1]):=rfl;rw[ee] at hQ f2 f3;generalize hl:alD (abg (.agg [d1,.int .i64 k1,.str s1,.str r1,.int .i64 n1,a1,b1,.int .i64 p1]))=l at hQ dl len3 lenB;have hlen:=dl.len
 -- the expression
 have LE:(∀g',match exF l (ax (.agg [.int .i64 k1,.str s1,.str r1,.int .i64 n1,a1,b1,.int .i64 p1])) [] with|some q=>Qf (.val (pai 140 q)) g'|none=>Qf (.val (pai 0 0)) g')→
  EvF TT 55 [Dat.ptr (some (g.boxes.length,0)),.agg [.int .i64 k1,.str s1,.str r1,.int .i64 n1,a1,b1,.int .i64 p1],Dat.nil] (gne g [D,Dat.int IntKind.i64 0,Dat.int IntKind.i64 0]) (KQ Qf λv g'=>Ret v []∧∃n,GOk TT 3 g' g.boxes.length 2 (Dat.int IntKind.i64 n)∧∃n_1,GOk TT 3 g' g.boxes.length 1 (Dat.int IntKind.i64 n_1)∧Qf (Out.val (Val.tuple [Val.d (Dat.int IntKind.i64 n),Val.d (Dat.int IntKind.i64 n_1)])) g'):=by
  intro hE;refine exo _ (Nat.lt_succ_self _) he1 f3 dl (gnw g _) stn (bd:=[]) rfl (by simp only[List.length_nil];omega) λg' h'=>⟨trivial,?_⟩
  have hE:=hE g';cases r:exF l (ax (.agg [.int .i64 k1,.str s1,.str r1,.int .i64 n1,a1,b1,.int .i64 p1])) [] with
  |some q=>
   rw[r] at hE h';exact⟨140,gok uI siI rfl h' rfl,q,gok uI siI rfl h' rfl,hE⟩
  |none=>
   rw[r] at hE h';exact⟨0,gok uI siI rfl h' rfl,0,gok uI siI rfl h' rfl,hE⟩
 -- Fields' types
 have L10:∀(i:Nat),i≤(elO D).length→(match fir l (l.drop i) with|some q=>Qf (.val (pai 141 q)) g|none=>∀g',match exF l (ax (.agg [.int .i64 k1,.str s1,.str r1,.int .i64 n1,a1,b1,.int .i64 p1])) [] with|some q=>Qf (.val (pai 140 q)) g'|none=>Qf (.val (pai 0 0)) g')→
   L28_10 D (i:Int) (.agg [d1,.int .i64 k1,.str s1,.str r1,.int .i64 n1,a1,b1,.int .i64 p1]) g Qf:=by
  refine lU (len:=(elO D).length) _ ?_ ?_
  ·intro hE;refine w28_10 ?_;rw[Bg];rw[hlen,List.drop_length] at hE;exact LE hE
  ·intro i hi ih hE;refine w28_10 ?_;rw[Bl hi];have hi':i<l.length:=by omega
   obtain⟨s2,a2,b2,q2,eg,hs2,ha2,hb2,el⟩:=dl.get hi';rw[List.drop_eq_getElem_cons hi'] at hE;unfold fir at hE;rw[el] at hE;simp only at hE;have eb:=hb2.els uC;have ebl:=eb.1.1;have hps:elO a2=((elO a2).map strOf).map .str:=stE ha2;generalize (elO a2).map strOf=ps at hE hps
   -- its constructors
   have L13:∀(j:Nat),j≤(elO b2).length→(match (bif coT l ps (((elO b2).drop j).map aC) then fir l (l.drop (i+1)) else some q2) with|some q=>Qf (.val (pai 141 q)) g|none=>∀g',match exF l (ax (.agg [.int .i64 k1,.str s1,.str r1,.int .i64 n1,a1,b1,.int .i64 p1])) [] with|some q=>Qf (.val (pai 140 q)) g'|none=>Qf (.val (pai 0 0)) g')→
    L28_13 D (i:Int) (j:Int) (.agg [d1,.int .i64 k1,.str s1,.str r1,.int .i64 n1,a1,b1,.int .i64 p1]) g Qf:=by
    refine lU (len:=(elO b2).length) _ ?_ ?_
    ·intro hE;refine w28_13 ⟨inB hi,?_⟩;rw[eg,show(fld (Dat.agg [.str s2,a2,b2,.int .i64 q2]) 2)=b2 from rfl,Bg,wra (by omega)];rw[List.drop_length] at hE;exact ih hE
    ·intro j hj ihj hE;refine w28_13 ⟨inB hi,?_⟩;rw[eg,show(fld (Dat.agg [.str s2,a2,b2,.int .i64 q2]) 2)=b2 from rfl,Bl hj];obtain⟨s3,f3,e3,_,hf3⟩:=coy (eb.2 _ (List.getElem_mem hj));have ef:=hf3.els uT;have efl:=ef.1.1;rw[List.drop_eq_getElem_cons hj,List.map_cons] at hE;unfold coT at hE;have efs:(aC (elO b2)[j]).fs=((elO f3).drop 0).map aT:=by rw[abC,e3];rfl
     rw[efs] at hE;refine lU (len:=(elO f3).length) (λk=>(match (bif tye l ps (((elO f3).drop k).map aT)&&coT l ps (((elO b2).drop (j+1)).map aC) then fir l (l.drop (i+1)) else some q2) with|some q=>Qf (.val (pai 141 q)) g|none=>∀g',match exF l (ax (.agg [.int .i64 k1,.str s1,.str r1,.int .i64 n1,a1,b1,.int .i64 p1])) [] with|some q=>Qf (.val (pai 140 q)) g'|none=>Qf (.val (pai 0 0)) g')→
      L28_16 D (i:Int) (j:Int) (k:Int) (.agg [d1,.int .i64 k1,.str s1,.str r1,.int .i64 n1,a1,b1,.int .i64 p1]) g Qf) ?_ ?_ 0 (Nat.zero_le _) hE
     ·intro hE;refine w28_16 ⟨inB hi,?_⟩;rw[eg,show(fld (Dat.agg [.str s2,a2,b2,.int .i64 q2]) 2)=b2 from rfl,geE hj,e3,show(fld (Dat.agg [.str s3,f3]) 1)=f3 from rfl,Bg,wra (by omega)];rw[List.drop_length] at hE;exact⟨inB hj,ihj hE⟩
     ·intro k hk ihk hE;refine w28_16 ⟨inB hi,?_⟩;rw[eg,show(fld (Dat.agg [.str s2,a2,b2,.int .i64 q2]) 2)=b2 from rfl,show(fld (Dat.agg [.str s2,a2,b2,.int .i64 q2]) 1)=a2 from rfl,show(fld (Dat.agg [.str s2,a2,b2,.int .i64 q2]) 3)=.int .i64 q2 from rfl,geE hj,e3,show(fld (Dat.agg [.str s3,f3]) 1)=f3 from rfl,Bl hk,geE hk];rw[List.drop_eq_getElem_cons hk,List.map_cons] at hE;unfold tye at hE;refine⟨inB hj,inB hi,inB hi,inB hj,inB hk,fel _ (Nat.lt_succ_self _) (ef.2 _ (List.getElem_mem hk)) ha2 hps dl ⟨_,rfl,Bi.2 ⟨λq5=>⟨inB hi,?_⟩,λq5=>?_⟩⟩⟩
      ·have q5:tyd l ps (aT (elO f3)[k])=false:=by simpa using q5
       rw[q5] at hE;exact hE
      ·have q5:tyd l ps (aT (elO f3)[k])=true:=by simpa using q5
       rw[q5] at hE;rw[wra (by omega)];exact ihk hE
   exact L13 0 (Nat.zero_le _) hE
 -- what stands twice
 have hQ1:∀g',(match fB (l.take 3) (l.drop 3) with|some q=>Qf (.val (pai 141 q)) g'|none=>match fir l (l.drop 3) with|some q=>Qf (.val (pai 141 q)) g'|none=>match exF l (ax (.agg [.int .i64 k1,.str s1,.str r1,.int .i64 n1,a1,b1,.int .i64 p1])) [] with|some q=>Qf (.val (pai 140 q)) g'|none=>Qf (.val (pai 0 0)) g'):=λg'=>by
  have h:=hQ g';cases h1:fB (l.take 3) (l.drop 3) with
  |some q=>rw[h1] at h;exact h
  |none=>
   rw[h1] at h;simp only at h⊢;cases h2:fir l (l.drop 3) with
   |some q=>rw[h2] at h;exact h
   |none=>
    rw[h2] at h;simp only at h⊢;cases h3:exF l (ax (.agg [.int .i64 k1,.str s1,.str r1,.int .i64 n1,a1,b1,.int .i64 p1])) []<;>(rw[h3] at h;exact h)
 refine lU (len:=(elO D).length) (λi=>3≤i→(∀g',(match fB (l.take i) (l.drop i) with|some q=>Qf (.val (pai 141 q)) g'|none=>match fir l (l.drop 3) with|some q=>Qf (.val (pai 141 q)) g'|none=>match exF l (ax (.agg [.int .i64 k1,.str s1,.str r1,.int .i64 n1,a1,b1,.int .i64 p1])) [] with|some q=>Qf (.val (pai 140 q)) g'|none=>Qf (.val (pai 0 0)) g'))→
  L28_5 D (i:Int) (.agg [d1,.int .i64 k1,.str s1,.str r1,.int .i64 n1,a1,b1,.int .i64 p1]) g Qf) ?_ ?_ 3 (by omega) (Nat.le_refl _) hQ1
 ·intro _ hE;refine w28_5 ?_;rw[Bg];rw[hlen,List.drop_length] at hE;refine L10 3 (by omega) ?_;have hE:∀g',match fir l (l.drop 3) with|some q=>Qf (.val (pai 141 q)) g'|none=>match exF l (ax (.agg [.int .i64 k1,.str s1,.str r1,.int .i64 n1,a1,b1,.int .i64 p1])) [] with|some q=>Qf (.val (pai 140 q)) g'|none=>Qf (.val (pai 0 0)) g':=hE
  cases h2:fir l (l.drop 3) with
  |some q=>rw[h2] at hE;exact hE g
  |none=>rw[h2] at hE;exact hE
 ·intro i hi ih h3 hE;refine w28_5 ?_;have hi':i<l.length:=by omega
  rw[Bl hi];obtain⟨s2,a2,b2,q2,eg,hs2,ha2,hb2,el⟩:=dl.get hi';rw[eg];rw[List.drop_eq_getElem_cons hi'] at hE;unfold fB at hE;rw[←List.take_succ_eq_append_getElem hi'] at hE;have ep:l[i].p=q2:=by rw[el]
  rw[ep] at hE;refine twc dl hi' ⟨_,rfl,Bi.2 ⟨λq5=>⟨inB hi,?_⟩,λq5=>?_⟩⟩
  ·rw[show deB (l.take i) l[i]=true from q5] at hE;exact hE g
  ·rw[show deB (l.take i) l[i]=false from q5] at hE;rw[wra (by omega)];exact ih (by omega) hE
end Go.Proofs.YtiheejdkkjfenaaGreatDoor.Pa
