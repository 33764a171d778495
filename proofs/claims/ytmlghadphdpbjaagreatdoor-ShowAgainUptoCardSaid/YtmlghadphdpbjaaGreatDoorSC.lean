/- Show: the program's writer on types and patterns. Show: the program's writer on expressions. -/
import Derived.Test.YtmlghadphdpbjaaGreatDoorSB
set_option linter.all false
set_option autoImplicit false
set_option maxRecDepth 100000
namespace Go.Proofs.YtmlghadphdpbjaaGreatDoor.Pa
open Go Go.Proofs.YtmlghadphdpbjaaGreatDoor.Am
theorem okTys_get:∀{l:List Ty},okTys l=true→∀t∈l,okTy t=true
 |x::l,h,t,ht=>by
  rw[okTys,Bool.and_eq_true] at h
  rcases List.mem_cons.1 ht with rfl|ht
  ·exact h.1
  ·exact okTys_get h.2 t ht
theorem okPts_get:∀{l:List Pt},okPts l=true→∀t∈l,okPt t=true
 |x::l,h,t,ht=>by
  rw[okPts,Bool.and_eq_true] at h
  rcases List.mem_cons.1 ht with rfl|ht
  ·exact h.1
  ·exact okPts_get h.2 t ht
theorem okExs_get:∀{l:List Ex'},okExs l=true→∀t∈l,okEx t=true
 |x::l,h,t,ht=>by
  rw[okExs,Bool.and_eq_true] at h
  rcases List.mem_cons.1 ht with rfl|ht
  ·exact h.1
  ·exact okExs_get h.2 t ht
theorem brk_t(t:Str):brk true t=[40]++(t++[41]):=rfl
theorem brk_f(t:Str):brk false t=t:=rfl
theorem brk_ge(c:Bool)(t:Str):t.length≤(brk c t).length:=by unfold brk;cases c<;>simp only[cond_true,cond_false,List.length_append]<;>omega
theorem two_of{l:List Dat}(h:(l.length:Int)==2):∃x y,l=[x,y]:=by
 have h:l.length=2:=by have:=eq_of_beq h;omega
 match l,h with
 |[x,y],_=>exact⟨x,y,rfl⟩
theorem one_of{l:List Dat}(h:(l.length:Int)==1):∃x,l=[x]:=by
 have h:l.length=1:=by have:=eq_of_beq h;omega
 match l,h with
 |[x],_=>exact⟨x,rfl⟩
theorem els_lt{y x:Dat}{l:List Dat}(h:elsOf x=l)(hy:y∈l):SizeOf.sizeOf y<SizeOf.sizeOf x:=by
 subst h
 obtain⟨i,hi,rfl⟩:=List.getElem_of_mem hy
 exact sizeOf_el hi
def TyW(k:Nat):Prop:=∀(x:Dat) (g:Glob) (w q:Nat) (b:Str) (Qf:OGP),SizeOf.sizeOf x<k→HasTy TT 28 x→okTy (absTy x)=true→Wr g w q b→b.length+(tTy (absTy x)).length≤2^40→
 (∀g',Wr g' w q (b++tTy (absTy x))→Qf (.val (.tuple [])) g')→EvF TT 33 [.ptr (some (w,0)),x] g Qf
section
variable{g:Glob}{q w k:Nat}{b:Str}{Qf:OGP}{x:Dat}
theorem betweenT(ih:TyW k)(hk:SizeOf.sizeOf x<k)(hx:HasTy TT 28 x)(ho:okTy (absTy x)=true)(hw:Wr g w q b)(hl:b.length+(tTy (absTy x)).length+2≤2^40)
 (hQ:∀g',Wr g' w q (b++brk true (tTy (absTy x)))→Qf (.val (.tuple [])) g'):EvF TT 70 [.ptr (some (w,0)),.bnd 33 (.ptr (some (w,0))),x] g Qf:=by
 refine w70 hx (put_ok hw rfl (by simp) (by simp[catD,strOf];omega) λg1 h1=>?_)
 refine ih x g1 w q _ _ hk hx ho h1 (by simp[catD,strOf];omega) λg2 h2=>⟨trivial,put_ok h2 rfl (by simp) (by simp[catD,strOf];omega) λg3 h3=>hQ g3 ?_⟩
 simpa[catD,strOf,brk_t] using h3
theorem fields_ok(ih:TyW k)(hk:SizeOf.sizeOf x≤k)(hx:HasTy TT 26 x)(ho:okTys ((elsOf x).map absTy)=true)(hw:Wr g w q b)(hl:b.length+(tFs ((elsOf x).map absTy)).length≤2^40)
 (hQ:∀g',Wr g' w q (b++tFs ((elsOf x).map absTy))→Qf (.val (.tuple [])) g'):EvF TT 71 [.ptr (some (w,0)),x] g Qf:=by
 have ex:=hx.els undTypes
 have exl:=ex.1.1
 refine w71 hx ?_
 refine loopUp (len:=(elsOf x).length) (λi=>∀g1 b1,Wr g1 w q b1→b1++tFs (((elsOf x).drop i).map absTy)=b++tFs ((elsOf x).map absTy)→L71_2 w 33 (.ptr (some (w,0))) x ((elsOf x).length:Int) (i:Int) g1 Qf) ?_ ?_ 0 (Nat.zero_le _) g b hw rfl
 ·intro g1 b1 h1 h2
  refine w71_2 ?_
  rw[Br_ge]
  rw[List.drop_length,List.map_nil,tFs,List.append_nil] at h2
  exact hQ _ (h2▸h1)
 ·intro i hi ih2 g1 b1 h1 h2
  refine w71_2 ?_
  rw[Br_lt hi,getE_nat hi]
  rw[drop_map_cons hi,tFs] at h2
  have hlen:=congrArg List.length h2
  have hok:=okTys_get ho _ (List.mem_map.2 ⟨_,List.getElem_mem hi,rfl⟩)
  have hsz:=sizeOf_el hi
  have hty:=ex.2 _ (List.getElem_mem hi)
  generalize (elsOf x)[i]=y at*
  have next:∀g3,Wr g3 w q (b1++([32]++brk (kTy (absTy y)==3||kTy (absTy y)==4&&!(noTy (absTy y))) (tTy (absTy y))))→L71_2 w 33 (.ptr (some (w,0))) x ((elsOf x).length:Int) (IntKind.i64.wrap ((i:Int)+1)) g3 Qf:=λg3 h3=>by
   rw[wrap_nat (by omega)]
   exact ih2 _ _ h3 (by rw[←h2];simp only[List.append_assoc])
  have hbr:=brk_len (kTy (absTy y)==3||kTy (absTy y)==4&&!(noTy (absTy y))) (tTy (absTy y))
  have hbr2:(tTy (absTy y)).length≤(brk (kTy (absTy y)==3||kTy (absTy y)==4&&!(noTy (absTy y))) (tTy (absTy y))).length:=brk_ge _ _
  simp only[List.length_append,List.length_cons,List.length_nil] at hlen
  refine⟨inB hi,put_ok h1 rfl (by simp) (by simp[catD,strOf];omega) λg2 k2=>?_⟩
  have goB:(kTy (absTy y)==3||kTy (absTy y)==4&&!(noTy (absTy y)))=true→EvF TT 70 [.ptr (some (w,0)),.bnd 33 (.ptr (some (w,0))),y] g2 (KQ Qf λv g'=>RetT v []∧L71_2 w 33 (.ptr (some (w,0))) x ((elsOf x).length:Int) (IntKind.i64.wrap ((i:Int)+1)) g' Qf):=λhc=>by
   rw[hc,brk_t] at hlen
   simp only[List.length_append,List.length_cons,List.length_nil] at hlen
   rw[hc] at next
   refine betweenT ih (by omega) hty hok k2 (by simp[catD,strOf];omega) λg3 h3=>⟨trivial,next g3 ?_⟩
   simpa[catD,strOf] using h3
  have goP:(kTy (absTy y)==3||kTy (absTy y)==4&&!(noTy (absTy y)))=false→EvF TT 33 [.ptr (some (w,0)),y] g2 (KQ Qf λv g'=>RetT v []∧L71_2 w 33 (.ptr (some (w,0))) x ((elsOf x).length:Int) (IntKind.i64.wrap ((i:Int)+1)) g' Qf):=λhc=>by
   rw[hc,brk_f] at next
   refine ih y g2 w q _ _ (by omega) hty hok k2 (by simp[catD,strOf];omega) λg3 h3=>⟨trivial,next g3 ?_⟩
   simpa[catD,strOf] using h3
  clear hlen next hbr hbr2 h2
  obtain⟨k1,s1,n1,a1,rfl,hs1,t1⟩:=type_ty hty
  have e1:kTy (absTy (.agg [.int .i64 k1,.str s1,.int .i64 n1,a1]))=k1:=rfl
  have e2:noTy (absTy (.agg [.int .i64 k1,.str s1,.int .i64 n1,a1]))=(elsOf a1).isEmpty:=by
   show(absTyA a1).isEmpty=_
   rw[absTyA_map]
   cases elsOf a1<;>rfl
  rw[e1,e2] at goB goP
  refine Br_iff.2 ⟨λh3=>goB ?_,λh3=>Br_iff.2 ⟨λh4=>Br_iff.2 ⟨λh5=>goB ?_,λh5=>goP ?_⟩,λh4=>goP ?_⟩⟩
  ·rw[show(k1==3)=true from h3];rfl
  ·rw[show(k1==3)=false from h3,show(k1==4)=true from h4]
   have h5:0<((elsOf a1).length:Int):=of_decide_eq_true h5
   cases h:elsOf a1 with
   |nil=>rw[h] at h5;simp at h5;try omega
   |cons _ _=>rfl
  ·rw[show(k1==3)=false from h3,show(k1==4)=true from h4]
   have h5:¬0<((elsOf a1).length:Int):=of_decide_eq_false h5
   cases h:elsOf a1 with
   |nil=>rfl
   |cons _ _=>rw[h] at h5;simp at h5;try omega
  ·rw[show(k1==3)=false from h3,show(k1==4)=false from h4];rfl
end
theorem typ_ok:∀k,TyW k
 |0=>λx _ _ _ _ _ hk=>by omega
 |k+1=>λx g w q b Qf hk hx ho hw hl hQ=>by
  have ih:=typ_ok k
  refine w33 hx ?_
  obtain⟨k1,s1,n1,a1,rfl,hs1,t1⟩:=type_ty hx
  have hc:=sizeOf_cell (cs:=[.int .i64 k1,.str s1,.int .i64 n1,a1]) (c:=a1) (by simp)
  have ex:=t1.els undTypes
  rw[show absTy (.agg [.int .i64 k1,.str s1,.int .i64 n1,a1])=.mk k1 s1 n1 (absTyA a1) from rfl,absTyA_map] at ho hl hQ
  rw[okTy,Bool.and_eq_true] at ho
  obtain⟨ho1,ho2⟩:=ho
  rw[List.length_map] at ho1
  rw[show intOf (fld (.agg [.int .i64 k1,.str s1,.int .i64 n1,a1]) 0)=k1 from rfl,show strOf (fld (.agg [.int .i64 k1,.str s1,.int .i64 n1,a1]) 1)=s1 from rfl,show fld (.agg [.int .i64 k1,.str s1,.int .i64 n1,a1]) 3=a1 from rfl]
  rw[tTy] at hl hQ
  cases h1:k1==1 with
  |true=>
   rw[h1,cond_true] at hl hQ
   rw[Br_true]
   exact put_ok hw rfl (by simp) (by simp[catD,strOf] at hl⊢;omega) λg1 k1=>hQ g1 (by simpa[catD,strOf] using k1)
  |false=>
   rw[h1,cond_false] at hl hQ
   rw[Br_false]
   cases h2:k1==2 with
   |true=>
    rw[h2,cond_true] at hl hQ
    rw[Br_true]
    exact put_ok hw rfl (by simp) (by simp[catD,strOf] at hl⊢;omega) λg1 k1=>hQ g1 (by simpa[catD,strOf] using k1)
   |false=>
    rw[h2,cond_false] at hl hQ
    rw[Br_false]
    cases h3:k1==3 with
    |true=>
     rw[h3,cond_true] at hl hQ
     rw[Br_true]
     have hn:((elsOf a1).length:Int)==2:=by rw[okTy1,h1,h2,h3] at ho1;simp at ho1;simpa using ho1.1.2
     obtain⟨y,z,e⟩:=two_of hn
     have hy:=els_lt e (y:=y) (by simp)
     have hz:=els_lt e (y:=z) (by simp)
     have ty:=ex.2 y (by rw[e];simp)
     have tz:=ex.2 z (by rw[e];simp)
     rw[e] at ho2 hl hQ⊢
     rw[List.map_cons,List.map_cons,List.map_nil] at ho2 hl hQ
     have oy:=okTys_get ho2 _ List.mem_cons_self
     have oz:=okTys_get ho2 (absTy z) (by simp)
     rw[tFn,tT0] at hl hQ
     have k3:intOf (fld (getE [y,z] 0) 0)=kTy (absTy y):=by
      obtain⟨k2,s2,n2,a2,rfl,_,_⟩:=type_ty ty
      rfl
     rw[show getE [y,z] 1=z from rfl,k3,show getE [y,z] 0=y from rfl]
     have hbr:(tTy (absTy y)).length≤(brk (kTy (absTy y)==3) (tTy (absTy y))).length:=brk_ge _ _
     simp only[List.length_append,sTo_len] at hl
     have rest:∀g2,Wr g2 w q (b++brk (kTy (absTy y)==3) (tTy (absTy y)))→∃x,HasTy TT 68 x∧GOk TT 68 g2 w 0 x∧∃t v fn,x=Dat.iface t v∧Meth TT t "athanor/show.put" fn∧EvF TT fn [v,Dat.sl 1 [Dat.str [32,45,62,32]]] g2 (KQ Qf λv g'=>RetT v []∧InB 1 (elsOf a1).length∧EvF TT 33 [Dat.ptr (some (w,0)),z] g' (KQ Qf λv g'=>RetT v []∧Qf (Out.val (Val.tuple [])) g')):=λg2 hg2=>by
      refine put_ok hg2 rfl (by simp) (by simp[catD,strOf];omega) λg3 hg3=>⟨by rw[e];exact inB (i:=1) (by simp),?_⟩
      refine ih z g3 w q _ _ (by omega) tz oz hg3 (by simp[catD,strOf];omega) λg4 hg4=>⟨trivial,hQ g4 ?_⟩
      simpa[catD,strOf,sTo] using hg4
     rw[e] at rest
     refine⟨inB (i:=0) (by simp),?_⟩
     cases h4:kTy (absTy y)==3 with
     |true=>
      rw[h4,brk_t] at hl
      rw[h4] at rest
      simp only[List.length_append,List.length_cons,List.length_nil] at hl
      rw[Br_true]
      exact⟨inB (i:=0) (by simp),betweenT ih (by omega) ty oy hw (by omega) λg2 hg2=>⟨trivial,rest g2 hg2⟩⟩
     |false=>
      rw[h4,brk_f] at hl rest
      rw[Br_false]
      exact⟨inB (i:=0) (by simp),ih y g w q _ _ (by omega) ty oy hw (by omega) λg2 hg2=>⟨trivial,rest g2 hg2⟩⟩
    |false=>
     rw[h3,cond_false] at hl hQ
     rw[Br_false]
     simp only[List.length_append] at hl
     refine put_ok hw rfl (by simp) (by simp[catD,strOf] at hl⊢;omega) λg1 hg1=>?_
     refine fields_ok ih (by omega) t1 ho2 hg1 (by simp[catD,strOf] at hl⊢;omega) λg2 hg2=>⟨trivial,hQ g2 ?_⟩
     simpa[catD,strOf] using hg2
def PtW(k:Nat):Prop:=∀(x:Dat) (g:Glob) (w q:Nat) (b:Str) (Qf:OGP),SizeOf.sizeOf x<k→HasTy TT 94 x→okPt (absPt x)=true→Wr g w q b→b.length+(tPt (absPt x)).length≤2^40→
 (∀g',Wr g' w q (b++tPt (absPt x))→Qf (.val (.tuple [])) g')→EvF TT 99 [.ptr (some (w,0)),x] g Qf
theorem betweenP{g:Glob}{q w k:Nat}{b:Str}{Qf:OGP}{x:Dat}(ih:PtW k)(hk:SizeOf.sizeOf x<k)(hx:HasTy TT 94 x)(ho:okPt (absPt x)=true)(hw:Wr g w q b)(hl:b.length+(tPt (absPt x)).length+2≤2^40)
 (hQ:∀g',Wr g' w q (b++brk true (tPt (absPt x)))→Qf (.val (.tuple [])) g'):EvF TT 145 [.ptr (some (w,0)),.bnd 99 (.ptr (some (w,0))),x] g Qf:=by
 refine w145 hx (put_ok hw rfl (by simp) (by simp[catD,strOf];omega) λg1 h1=>?_)
 refine ih x g1 w q _ _ hk hx ho h1 (by simp[catD,strOf];omega) λg2 h2=>⟨trivial,put_ok h2 rfl (by simp) (by simp[catD,strOf];omega) λg3 h3=>hQ g3 ?_⟩
 simpa[catD,strOf,brk_t] using h3
theorem pat_ok:∀k,PtW k
 |0=>λx _ _ _ _ _ hk=>by omega
 |k+1=>λx g w q b Qf hk hx ho hw hl hQ=>by
  have ih:=pat_ok k
  refine w99 hx ?_
  obtain⟨k1,s1,n1,a1,p1,rfl,hs1,t1⟩:=pat_ty hx
  have hc:=sizeOf_cell (cs:=[.int .i64 k1,.str s1,.int .i64 n1,a1,.int .i64 p1]) (c:=a1) (by simp)
  have ex:=t1.els undPats
  have exl:=ex.1.1
  rw[show absPt (.agg [.int .i64 k1,.str s1,.int .i64 n1,a1,.int .i64 p1])=.mk k1 s1 n1 (absPtA a1) p1 from rfl,absPtA_map] at ho hl hQ
  rw[okPt,Bool.and_eq_true] at ho
  obtain⟨ho1,ho2⟩:=ho
  rw[List.length_map] at ho1
  rw[show intOf (fld (.agg [.int .i64 k1,.str s1,.int .i64 n1,a1,.int .i64 p1]) 0)=k1 from rfl,show strOf (fld (.agg [.int .i64 k1,.str s1,.int .i64 n1,a1,.int .i64 p1]) 1)=s1 from rfl,show intOf (fld (.agg [.int .i64 k1,.str s1,.int .i64 n1,a1,.int .i64 p1]) 2)=n1 from rfl,show fld (.agg [.int .i64 k1,.str s1,.int .i64 n1,a1,.int .i64 p1]) 3=a1 from rfl]
  rw[tPt] at hl hQ
  cases h1:k1==1 with
  |true=>
   rw[h1,cond_true] at hl hQ
   rw[Br_true]
   exact put_ok hw rfl (by simp) (by simp[catD,strOf] at hl⊢;omega) λg1 k1=>hQ g1 (by simpa[catD,strOf] using k1)
  |false=>
   rw[h1,cond_false] at hl hQ
   rw[Br_false]
   cases h2:k1==3 with
   |true=>
    rw[h2,cond_true] at hl hQ
    rw[Br_true]
    have hn:inI n1=true:=(okPt1_len ho1).2 h2
    exact number_ok' hn hw hl λg1 k1=>⟨trivial,hQ g1 k1⟩
   |false=>
    rw[h2,cond_false] at hl hQ
    rw[Br_false]
    have hl':=hl
    simp only[List.length_append] at hl
    refine put_ok hw rfl (by simp) (by simp[catD,strOf] at hl⊢;omega) λg1 hg1=>?_
    have hw1:Wr g1 w q (b++s1):=by simpa[catD,strOf] using hg1
    refine loopUp (len:=(elsOf a1).length) (λi=>∀g1 b1,Wr g1 w q b1→b1++tPs (((elsOf a1).drop i).map absPt)=b++(s1++tPs ((elsOf a1).map absPt))→L99_4 w a1 ((elsOf a1).length:Int) (i:Int) g1 Qf) ?_ ?_ 0 (Nat.zero_le _) g1 _ hw1 (by simp)
    ·intro g1 b1 h1 h2
     refine w99_4 ?_
     rw[Br_ge]
     rw[List.drop_length,List.map_nil,tPs,List.append_nil] at h2
     exact hQ _ (h2▸h1)
    ·intro i hi ih2 g1 b1 h1 h2
     refine w99_4 ?_
     rw[Br_lt hi,getE_nat hi]
     rw[drop_map_cons hi,tPs] at h2
     have hlen:=congrArg List.length h2
     have hok:=okPts_get ho2 _ (List.mem_map.2 ⟨_,List.getElem_mem hi,rfl⟩)
     have hsz:=sizeOf_el hi
     have hty:=ex.2 _ (List.getElem_mem hi)
     generalize (elsOf a1)[i]=y at*
     have hno:decide (0<((elsOf (fld y 3)).length:Int))=!(noPt (absPt y)):=by
      obtain⟨k2,s2,n2,a2,p2,rfl,_,_⟩:=pat_ty hty
      show decide (0<((elsOf a2).length:Int))=!((absPtA a2).isEmpty)
      rw[absPtA_map]
      cases elsOf a2 with
      |nil=>rfl
      |cons _ _=>simp<;>try omega
     rw[hno]
     simp only[List.length_append,List.length_cons,List.length_nil] at hlen
     refine⟨inB hi,put_ok h1 rfl (by simp) (by simp[catD,strOf];omega) λg2 k2=>?_⟩
     have next:∀g3,Wr g3 w q (b1++([32]++brk (!(noPt (absPt y))) (tPt (absPt y))))→L99_4 w a1 ((elsOf a1).length:Int) (IntKind.i64.wrap ((i:Int)+1)) g3 Qf:=λg3 h3=>by
      rw[wrap_nat (by omega)]
      exact ih2 _ _ h3 (by rw[←h2];simp only[List.append_assoc])
     cases h4:!(noPt (absPt y)) with
     |true=>
      rw[h4,brk_t] at hlen
      rw[h4] at next
      simp only[List.length_append,List.length_cons,List.length_nil] at hlen
      rw[Br_true]
      refine betweenP ih (by omega) hty hok k2 (by simp[catD,strOf];omega) λg3 h3=>⟨trivial,next g3 ?_⟩
      simpa[catD,strOf] using h3
     |false=>
      rw[h4,brk_f] at hlen next
      rw[Br_false]
      refine ih y g2 w q _ _ (by omega) hty hok k2 (by simp[catD,strOf];omega) λg3 h3=>⟨trivial,next g3 ?_⟩
      simpa[catD,strOf] using h3
end Go.Proofs.YtmlghadphdpbjaaGreatDoor.Pa
namespace Go.Proofs.YtmlghadphdpbjaaGreatDoor.Pa
open Go Go.Proofs.YtmlghadphdpbjaaGreatDoor.Am
def ExW(k:Nat):Prop:=∀(x:Dat) (g:Glob) (w q:Nat) (b:Str) (Qf:OGP),SizeOf.sizeOf x<k→HasTy TT 25 x→okEx (absEx x)=true→Wr g w q b→b.length+(tEx (absEx x)).length≤2^40→
 (∀g',Wr g' w q (b++tEx (absEx x))→Qf (.val (.tuple [])) g')→EvF TT 27 [.ptr (some (w,0)),x] g Qf
structure Sub(k:Nat)(x:Dat):Prop where
 lt:SizeOf.sizeOf x<k
 ty:HasTy TT 25 x
 ok:okEx (absEx x)=true
theorem Sub.kind{k:Nat}{x:Dat}(h:Sub k x):intOf (fld x 0)=kEx (absEx x)∧(((elsOf (fld x 4)).length:Int)==0)=noEx (absEx x):=by
 obtain⟨k2,s2,r2,n2,a2,b2,p2,rfl,_⟩:=expr_ty h.ty
 refine⟨rfl,?_⟩
 show(((elsOf a2).length:Int)==0)=(absExA a2).isEmpty
 rw[absExA_map]
 cases elsOf a2 with
 |nil=>rfl
 |cons _ _=>simp<;>omega
section
variable{g:Glob}{q w k:Nat}{b:Str}{Qf:OGP}{x y z:Dat}
theorem betweenE(ih:ExW k)(h:Sub k x)(hw:Wr g w q b)(hl:b.length+(tEx (absEx x)).length+2≤2^40)
 (hQ:∀g',Wr g' w q (b++brk true (tEx (absEx x)))→Qf (.val (.tuple [])) g'):EvF TT 98 [.ptr (some (w,0)),.bnd 27 (.ptr (some (w,0))),x] g Qf:=by
 refine w98 h.ty (put_ok hw rfl (by simp) (by simp[catD,strOf];omega) λg1 h1=>?_)
 refine ih x g1 w q _ _ h.lt h.ty h.ok h1 (by simp[catD,strOf];omega) λg2 h2=>⟨trivial,put_ok h2 rfl (by simp) (by simp[catD,strOf];omega) λg3 h3=>hQ g3 ?_⟩
 simpa[catD,strOf,brk_t] using h3
theorem atomW(ih:ExW k)(h:Sub k x)(hw:Wr g w q b)(hl:b.length+(brk (!(atomK (absEx x))) (tEx (absEx x))).length≤2^40)
 (hQ:∀g',Wr g' w q (b++brk (!(atomK (absEx x))) (tEx (absEx x)))→Qf (.val (.tuple [])) g'):EvF TT 56 [.ptr (some (w,0)),x] g Qf:=by
 refine w56 h.ty ?_
 rw[h.kind.1,h.kind.2]
 have goP:atomK (absEx x)=true→EvF TT 27 [.ptr (some (w,0)),x] g (KQ Qf λv g'=>RetT v []∧Qf (Out.val (Val.tuple [])) g'):=λhc=>by
  rw[hc] at hl hQ
  exact ih x g w q _ _ h.lt h.ty h.ok hw hl λg' h'=>⟨trivial,hQ g' h'⟩
 have goB:atomK (absEx x)=false→EvF TT 98 [.ptr (some (w,0)),.bnd 27 (.ptr (some (w,0))),x] g (KQ Qf λv g'=>RetT v []∧Qf (Out.val (Val.tuple [])) g'):=λhc=>by
  rw[hc] at hl hQ
  rw[Bool.not_false,brk_t] at hl
  simp only[List.length_append,List.length_cons,List.length_nil] at hl
  exact betweenE ih h hw (by omega) λg' h'=>⟨trivial,hQ g' h'⟩
 unfold atomK at goP goB
 refine Br_iff.2 ⟨λh1=>goP (by rw[h1];rfl),λh1=>Br_iff.2 ⟨λh2=>goP (by rw[h1,h2];rfl),λh2=>Br_iff.2 ⟨λh3=>Br_iff.2 ⟨λh4=>goP (by rw[h1,h2,h3,h4];rfl),λh4=>goB (by rw[h1,h2,h3,h4];rfl)⟩,λh3=>goB (by rw[h1,h2,h3];rfl)⟩⟩⟩
theorem appW(ih:ExW k)(hx:HasTy TT 25 x)(e:elsOf (fld x 4)=[y,z])(hy:Sub k y)(hz:Sub k z)(hw:Wr g w q b)(hl:b.length+(tH0 [absEx y,absEx z]).length≤2^40)
 (hQ:∀g',Wr g' w q (b++tH0 [absEx y,absEx z])→Qf (.val (.tuple [])) g'):EvF TT 53 [.ptr (some (w,0)),x] g Qf:=by
 refine w53 hx ?_
 have e0:getE (elsOf (fld x 4)) 0=y:=by rw[e];rfl
 have e1:getE (elsOf (fld x 4)) 1=z:=by rw[e];rfl
 have i0:InB 0 (elsOf (fld x 4)).length:=by rw[e];exact inB (i:=0) (by simp)
 have i1:InB 1 (elsOf (fld x 4)).length:=by rw[e];exact inB (i:=1) (by simp)
 rw[e0,e1,hy.kind.1]
 rw[tH0,tA0] at hl hQ
 have g1:=brk_ge (!(kEx (absEx y)==4)&&(kEx (absEx y)==8||!(atomK (absEx y)))) (tEx (absEx y))
 simp only[List.length_append,List.length_cons,List.length_nil] at hl
 have rest:∀g2,Wr g2 w q (b++brk (!(kEx (absEx y)==4)&&(kEx (absEx y)==8||!(atomK (absEx y)))) (tEx (absEx y)))→∃x_1,HasTy TT 68 x_1∧GOk TT 68 g2 w 0 x_1∧∃t v fn,x_1=Dat.iface t v∧Meth TT t "athanor/show.put" fn∧EvF TT fn [v,Dat.sl 1 [Dat.str [32]]] g2 (KQ Qf λv g'=>RetT v []∧InB 1 (elsOf (fld x 4)).length∧EvF TT 56 [Dat.ptr (some (w,0)),z] g' (KQ Qf λv g'=>RetT v []∧Qf (Out.val (Val.tuple [])) g')):=λg2 hg2=>by
  refine put_ok hg2 rfl (by simp) (by simp[catD,strOf];omega) λg3 hg3=>⟨i1,atomW ih hz hg3 (by simp[catD,strOf];omega) λg4 hg4=>⟨trivial,hQ g4 ?_⟩⟩
  simpa[catD,strOf] using hg4
 refine⟨i0,Br_iff.2 ⟨λh1=>⟨i0,ih y g w q _ _ hy.lt hy.ty hy.ok hw (by omega) λg2 hg2=>⟨trivial,rest g2 ?_⟩⟩,λh1=>Br_iff.2 ⟨λh2=>⟨i0,betweenE ih hy hw ?_ λg2 hg2=>⟨trivial,rest g2 ?_⟩⟩,λh2=>⟨i0,atomW ih hy hw ?_ λg2 hg2=>⟨trivial,rest g2 ?_⟩⟩⟩⟩⟩
 ·rw[h1];exact hg2
 ·rw[h1,h2] at hl;simp only[brk_t,List.length_append,List.length_cons,List.length_nil,Bool.not_false,Bool.true_and,Bool.true_or] at hl;omega
 ·rw[h1,h2];exact hg2
 ·rw[h1,h2] at hl;simp only[Bool.not_false,Bool.true_and,Bool.false_or] at hl;omega
 ·rw[h1,h2];exact hg2
theorem letW{s r:Str}{kk:Int}(ih:ExW k)(hx:HasTy TT 25 x)(h0:intOf (fld x 0)=kk)(h1:strOf (fld x 1)=s)(h2:strOf (fld x 2)=r)(e:elsOf (fld x 4)=[y,z])(hy:Sub k y)(hz:Sub k z)(hw:Wr g w q b)
 (hl:b.length+s.length+(bif kk==6 then r.length+5 else 0)+(tEx (absEx y)).length+(tEx (absEx z)).length+11≤2^40)
 (hQ:∀g',Wr g' w q (b++([108,101,116,32]++((bif kk==6 then[114,101,99,32]++(s++([32]++r)) else s)++(tEqS++tIn [absEx y,absEx z]))))→Qf (.val (.tuple [])) g'):EvF TT 54 [.ptr (some (w,0)),x] g Qf:=by
 refine w54 hx ?_
 have e0:getE (elsOf (fld x 4)) 0=y:=by rw[e];rfl
 have e1:getE (elsOf (fld x 4)) 1=z:=by rw[e];rfl
 have i0:InB 0 (elsOf (fld x 4)).length:=by rw[e];exact inB (i:=0) (by simp)
 have i1:InB 1 (elsOf (fld x 4)).length:=by rw[e];exact inB (i:=1) (by simp)
 rw[e0,e1,h0,h1,h2]
 rw[tIn,tE0] at hQ
 refine put_ok hw rfl (by simp) (by simp[catD,strOf];omega) λg1 hg1=>?_
 have rest:∀g2 b2,b2.length+7+(tEx (absEx y)).length+(tEx (absEx z)).length≤2^40→Wr g2 w q b2→b2=b++([108,101,116,32]++(bif kk==6 then[114,101,99,32]++(s++([32]++r)) else s))→∃x_1,HasTy TT 68 x_1∧GOk TT 68 g2 w 0 x_1∧∃t v fn,x_1=Dat.iface t v∧Meth TT t "athanor/show.put" fn∧EvF TT fn [v,Dat.sl 1 [Dat.str [32,61,32]]] g2 (KQ Qf λv g'=>RetT v []∧InB 0 (elsOf (fld x 4)).length∧EvF TT 27 [Dat.ptr (some (w,0)),y] g' (KQ Qf λv g'=>RetT v []∧∃x_1,HasTy TT 68 x_1∧GOk TT 68 g' w 0 x_1∧∃t v fn,x_1=Dat.iface t v∧Meth TT t "athanor/show.put" fn∧EvF TT fn [v,Dat.sl 1 [Dat.str [32,105,110,32]]] g' (KQ Qf λv g'=>RetT v []∧InB 1 (elsOf (fld x 4)).length∧EvF TT 27 [Dat.ptr (some (w,0)),z] g' (KQ Qf λv g'=>RetT v []∧Qf (Out.val (Val.tuple [])) g')))):=λg2 b2 hb2 hg2 he=>by
  refine put_ok hg2 rfl (by simp) (by simp[catD,strOf];omega) λg3 hg3=>⟨i0,ih y g3 w q _ _ hy.lt hy.ty hy.ok hg3 (by simp[catD,strOf];omega) λg4 hg4=>⟨trivial,?_⟩⟩
  refine put_ok hg4 rfl (by simp) (by simp[catD,strOf];omega) λg5 hg5=>⟨i1,ih z g5 w q _ _ hz.lt hz.ty hz.ok hg5 (by simp[catD,strOf];omega) λg6 hg6=>⟨trivial,hQ g6 ?_⟩⟩
  subst he
  simpa[catD,strOf,tEqS] using hg6
 cases hk:kk==6 with
 |true=>
  rw[hk] at rest hl
  rw[cond_true] at hl
  rw[Br_true]
  exact put_ok hg1 rfl (by simp) (by simp[catD,strOf];omega) λg2 hg2=>rest g2 _ (by simp[catD,strOf];omega) hg2 (by simp[catD,strOf])
 |false=>
  rw[hk] at rest hl
  rw[cond_false] at hl
  rw[Br_false]
  exact put_ok hg1 rfl (by simp) (by simp[catD,strOf];omega) λg2 hg2=>rest g2 _ (by simp[catD,strOf];omega) hg2 (by simp[catD,strOf])
theorem casesW{l lb:List Dat}(ih:ExW k)(hx:HasTy TT 25 x)(e:elsOf (fld x 4)=y::l)(eb:elsOf (fld x 5)=lb)(hn:l.length=lb.length)(hy:Sub k y)(hs:∀z∈l,Sub k z)(hp:∀z∈lb,HasTy TT 94 z∧okPt (absPt z)=true)(hm:lb.length≤2^40)(hw:Wr g w q b)
 (hl:b.length+5+(tCa (lb.map absPt) (absEx y::l.map absEx)).length≤2^40)
 (hQ:∀g',Wr g' w q (b++([99,97,115,101,32]++tCa (lb.map absPt) (absEx y::l.map absEx)))→Qf (.val (.tuple [])) g'):EvF TT 55 [.ptr (some (w,0)),x] g Qf:=by
 refine w55 hx ?_
 have e0:getE (elsOf (fld x 4)) 0=y:=by rw[e];rfl
 have i0:InB 0 (elsOf (fld x 4)).length:=by rw[e];exact inB (i:=0) (by simp)
 rw[e0]
 rw[tCa] at hl hQ
 simp only[List.length_append] at hl
 refine put_ok hw rfl (by simp) (by simp[catD,strOf];omega) λg1 hg1=>⟨i0,ih y g1 w q _ _ hy.lt hy.ty hy.ok hg1 (by simp[catD,strOf];omega) λg2 hg2=>⟨trivial,?_⟩⟩
 have hel:((elsOf (fld x 5)).length:Int)=(lb.length:Int):=by rw[eb]
 rw[hel]
 refine loopUp (len:=lb.length) (λi=>∀g1 b1 hd,Wr g1 w q b1→b1++tBr hd ((lb.drop i).map absPt) ((l.drop i).map absEx)=b++([99,97,115,101,32]++(tEx (absEx y)++tBr [32,111,102,32] (lb.map absPt) (l.map absEx)))→L55_5 w hd (fld x 5) (lb.length:Int) (i:Int) x g1 Qf) ?_ ?_ 0 (Nat.zero_le _) g2 _ [32,111,102,32] hg2 (by simp[catD,strOf])
 ·intro g1 b1 hd h1 h2
  have hlen:=congrArg List.length h2
  refine w55_5 ?_
  rw[Br_ge]
  have hz:l.drop lb.length=[]:=by rw[←hn,List.drop_length]
  have ht:tBr hd ((lb.drop lb.length).map absPt) ((l.drop lb.length).map absEx)=[32,101,110,100]:=by rw[hz];cases (lb.drop lb.length).map absPt<;>rfl
  rw[ht] at h2 hlen
  simp only[List.length_append,List.length_cons,List.length_nil] at hlen
  exact put_ok h1 rfl (by simp) (by simp[catD,strOf];omega) λg3 hg3=>hQ g3 (by rw[←h2];simpa[catD,strOf] using hg3)
 ·intro i hi ihl g1 b1 hd h1 h2
  have hi2:i<l.length:=by omega
  rw[drop_map_cons hi,drop_map_cons hi2,tBr] at h2
  have hlen:=congrArg List.length h2
  have hgp:getE (elsOf (fld x 5)) (i:Int)=lb[i]:=by rw[eb];exact getE_nat hi
  have hw1:IntKind.i64.wrap ((i:Int)+1)=((i+1:Nat):Int):=wrap_nat (by omega)
  have hge:getE (elsOf (fld x 4)) (((i+1:Nat):Int))=l[i]:=by
   rw[e]
   exact(getE_nat (xs:=y::l) (i:=i+1) (by simp;omega)).trans rfl
  have inb2:InB (((i+1:Nat):Int)) (elsOf (fld x 4)).length:=inB (by rw[e];simp;omega)
  have hsub:=hs _ (List.getElem_mem hi2)
  obtain⟨pty,pok⟩:=hp _ (List.getElem_mem hi)
  refine w55_5 ?_
  rw[Br_lt hi,hgp,hw1,hge,hsub.kind.1]
  generalize l[i]=u at*
  generalize lb[i]=p at*
  simp only[List.length_append,List.length_cons,List.length_nil,sTo_len] at hlen
  have gb:=brk_ge (branchK (kEx (absEx u))) (tEx (absEx u))
  refine⟨by rw[eb];exact inB hi,put_ok h1 rfl (by simp) (by simp[catD,strOf];omega) λg2 h2'=>pat_ok _ p g2 w q _ _ (Nat.lt_succ_self _) pty pok h2' (by simp[catD,strOf];omega) λg3 h3=>⟨trivial,put_ok h3 rfl (by simp) (by simp[catD,strOf];omega) λg4 h4=>⟨inb2,?_⟩⟩⟩
  have next:∀g5,Wr g5 w q (b1++(hd++(tPt (absPt p)++(sTo++brk (branchK (kEx (absEx u))) (tEx (absEx u))))))→L55_5 w [32,124,32] (fld x 5) (lb.length:Int) ((i+1:Nat):Int) x g5 Qf:=λg5 h5=>ihl _ _ _ h5 (by rw[←h2];simp only[List.append_assoc];rfl)
  have goB:branchK (kEx (absEx u))=true→EvF TT 98 [.ptr (some (w,0)),.bnd 27 (.ptr (some (w,0))),u] g4 (KQ Qf λv g'=>RetT v []∧L55_5 w [32,124,32] (fld x 5) (lb.length:Int) ((i+1:Nat):Int) x g' Qf):=λhc=>by
   rw[hc] at hlen next
   rw[brk_t] at hlen
   simp only[List.length_append,List.length_cons,List.length_nil] at hlen
   refine betweenE ih hsub h4 (by simp[catD,strOf];omega) λg5 h5=>⟨trivial,next g5 ?_⟩
   simpa[catD,strOf,sTo] using h5
  have goP:branchK (kEx (absEx u))=false→EvF TT 27 [.ptr (some (w,0)),u] g4 (KQ Qf λv g'=>RetT v []∧L55_5 w [32,124,32] (fld x 5) (lb.length:Int) ((i+1:Nat):Int) x g' Qf):=λhc=>by
   rw[hc] at next
   refine ih u g4 w q _ _ hsub.lt hsub.ty hsub.ok h4 (by simp[catD,strOf];omega) λg5 h5=>⟨trivial,next g5 ?_⟩
   simpa[catD,strOf,sTo,brk_f] using h5
  unfold branchK at goB goP
  cases k3:kEx (absEx u)==3 with
  |true=>rw[k3] at goB;exact goB rfl
  |false=>
   cases k5:kEx (absEx u)==5 with
   |true=>rw[k3,k5] at goB;exact goB rfl
   |false=>
    rw[k3,k5] at goB goP
    rw[Br_false,Br_false]
    exact Br_iff.2 ⟨λk6=>goB (by rw[k6];rfl),λk6=>goP (by rw[k6];rfl)⟩
end
theorem pos0_of{n:Nat}(h:pos0 (n:Int)=true):0<n:=by
 unfold pos0 at h
 have:=of_decide_eq_true h
 omega
theorem exprW:∀k,ExW k
 |0=>λx _ _ _ _ _ hk=>by omega
 |k+1=>λx g w q b Qf hk hx ho hw hl hQ=>by
  have ih:=exprW k
  refine w27 hx ?_
  obtain⟨k1,s1,r1,n1,a1,b1,p1,rfl,hs1,hr1,t1,u1⟩:=expr_ty hx
  have hc:=sizeOf_cell (cs:=[.int .i64 k1,.str s1,.str r1,.int .i64 n1,a1,b1,.int .i64 p1]) (c:=a1) (by simp)
  have ex:=t1.els undExprs
  have exl:=ex.1.1
  have eu:=u1.els undPats
  rw[show absEx (.agg [.int .i64 k1,.str s1,.str r1,.int .i64 n1,a1,b1,.int .i64 p1])=.mk k1 s1 r1 n1 (absExA a1) (absPtA b1) p1 from rfl,absExA_map,absPtA_map] at ho hl hQ
  rw[okEx,Bool.and_eq_true,Bool.and_eq_true,List.length_map,List.length_map] at ho
  obtain⟨ho1,ho2,ho3⟩:=ho
  have hsub:∀y∈elsOf a1,Sub k y:=λy hy=>⟨by have:=els_lt rfl hy;omega,ex.2 y hy,okExs_get ho3 _ (List.mem_map.2 ⟨y,hy,rfl⟩)⟩
  have hpt:∀y∈elsOf b1,HasTy TT 94 y∧okPt (absPt y)=true:=λy hy=>⟨eu.2 y hy,okPts_get ho2 _ (List.mem_map.2 ⟨y,hy,rfl⟩)⟩
  have hin:=(okEx1_len ho1).2.2
  have ho1':(bif k1==1 then wLow s1&&(((elsOf a1).length:Int)==0) else bif k1==2 then(s1==[])&&(inI n1&&(((elsOf a1).length:Int)==0)) else bif k1==3 then wLow s1&&(((elsOf a1).length:Int)==1) else bif k1==4 then(s1==[])&&(((elsOf a1).length:Int)==2)
   else bif k1==5 then wLow s1&&(((elsOf a1).length:Int)==2) else bif k1==6 then wLow s1&&(wLow r1&&(((elsOf a1).length:Int)==2)) else bif k1==7 then(s1==[])&&(pos0 ((elsOf b1).length:Int)&&(((elsOf a1).length:Int)==((elsOf b1).length:Int)+1)) else bif k1==8 then wUp s1
   else bif k1==9 then pos0 (opN s1)&&(((elsOf a1).length:Int)==2) else bif k1==10 then(s1==[])&&(((elsOf a1).length:Int)==1) else false)=true:=by
   unfold okEx1 at ho1
   cases hz:((!(k1==6)&&!(r1==[]))||((!(k1==2)&&!(n1==0))||(!(k1==7)&&pos0 ((elsOf b1).length:Int)))) with
   |true=>rw[hz] at ho1;cases ho1
   |false=>rw[hz] at ho1;exact ho1
  clear ho1
  rw[show intOf (fld (.agg [.int .i64 k1,.str s1,.str r1,.int .i64 n1,a1,b1,.int .i64 p1]) 0)=k1 from rfl,show strOf (fld (.agg [.int .i64 k1,.str s1,.str r1,.int .i64 n1,a1,b1,.int .i64 p1]) 1)=s1 from rfl,show intOf (fld (.agg [.int .i64 k1,.str s1,.str r1,.int .i64 n1,a1,b1,.int .i64 p1]) 3)=n1 from rfl,show fld (.agg [.int .i64 k1,.str s1,.str r1,.int .i64 n1,a1,b1,.int .i64 p1]) 4=a1 from rfl]
  rw[tEx] at hl hQ
  cases h1:k1==1 with
  |true=>
   rw[h1,cond_true] at hl hQ
   rw[Br_true]
   exact put_ok hw rfl (by simp) (by simp[catD,strOf];omega) λg1 k1=>hQ g1 (by simpa[catD,strOf] using k1)
  |false=>
  rw[h1,cond_false] at hl hQ ho1'
  rw[Br_false]
  cases h2:k1==2 with
  |true=>
   rw[h2,cond_true] at hl hQ
   rw[Br_true]
   exact number_ok' (hin h2) hw hl λg1 k1=>⟨trivial,hQ g1 k1⟩
  |false=>
  rw[h2,cond_false] at hl hQ ho1'
  rw[Br_false]
  cases h3:k1==3 with
  |true=>
   rw[h3,cond_true] at hl hQ ho1'
   rw[Br_true]
   obtain⟨y,e⟩:=one_of (Bool.and_eq_true _ _▸ho1').2
   have hy:=hsub y (by rw[e];simp)
   rw[e] at hl hQ⊢
   rw[show getE [y] 0=y from rfl]
   rw[List.map_cons,List.map_nil,tE0] at hl hQ
   simp only[List.length_append,List.length_cons,List.length_nil,sTo_len] at hl
   refine put_ok hw rfl (by simp) (by simp[catD,strOf];omega) λg1 hg1=>⟨inB (i:=0) (by simp),ih y g1 w q _ _ hy.lt hy.ty hy.ok hg1 (by simp[catD,strOf];omega) λg2 hg2=>⟨trivial,hQ g2 ?_⟩⟩
   simpa[catD,strOf,sTo] using hg2
  |false=>
  rw[h3,cond_false] at hl hQ ho1'
  rw[Br_false]
  cases h4:k1==4 with
  |true=>
   rw[h4,cond_true] at hl hQ ho1'
   rw[Br_true]
   obtain⟨y,z,e⟩:=two_of (Bool.and_eq_true _ _▸ho1').2
   rw[e] at hl hQ
   exact appW ih hx e (hsub y (by rw[e];simp)) (hsub z (by rw[e];simp)) hw hl λg1 hg1=>⟨trivial,hQ g1 hg1⟩
  |false=>
  rw[h4,cond_false] at hl hQ ho1'
  rw[Br_false]
  cases h5:k1==5 with
  |true=>
   rw[h5,cond_true] at hl hQ ho1'
   rw[Br_true,Br_true]
   obtain⟨y,z,e⟩:=two_of (Bool.and_eq_true _ _▸ho1').2
   rw[e] at hl hQ
   have h6:(k1==6)=false:=by rw[eq_of_beq h5];rfl
   refine letW ih hx rfl rfl rfl e (hsub y (by rw[e];simp)) (hsub z (by rw[e];simp)) hw ?_ λg1 hg1=>⟨trivial,hQ g1 ?_⟩
   ·rw[List.map_cons,List.map_cons,List.map_nil,tIn,tE0] at hl
    simp only[List.length_append,List.length_cons,List.length_nil,tEqS_len] at hl
    rw[show intOf (fld (.agg [.int .i64 k1,.str s1,.str r1,.int .i64 n1,a1,b1,.int .i64 p1]) 0)=k1 from rfl,h6,cond_false]
    show b.length+s1.length+0+_+_+11≤_
    omega
   ·rw[show intOf (fld (.agg [.int .i64 k1,.str s1,.str r1,.int .i64 n1,a1,b1,.int .i64 p1]) 0)=k1 from rfl,h6] at hg1
    exact hg1
  |false=>
  rw[h5,cond_false] at hl hQ ho1'
  rw[Br_false]
  cases h6:k1==6 with
  |true=>
   rw[h6,cond_true] at hl hQ ho1'
   rw[Br_true]
   obtain⟨y,z,e⟩:=two_of (Bool.and_eq_true _ _▸(Bool.and_eq_true _ _▸ho1').2).2
   rw[e] at hl hQ
   refine letW ih hx rfl rfl rfl e (hsub y (by rw[e];simp)) (hsub z (by rw[e];simp)) hw ?_ λg1 hg1=>⟨trivial,hQ g1 ?_⟩
   ·rw[List.map_cons,List.map_cons,List.map_nil,tIn,tE0] at hl
    simp only[List.length_append,List.length_cons,List.length_nil,tEqS_len] at hl
    rw[show intOf (fld (.agg [.int .i64 k1,.str s1,.str r1,.int .i64 n1,a1,b1,.int .i64 p1]) 0)=k1 from rfl,h6,cond_true]
    show b.length+s1.length+(r1.length+5)+_+_+11≤_
    omega
   ·rw[show intOf (fld (.agg [.int .i64 k1,.str s1,.str r1,.int .i64 n1,a1,b1,.int .i64 p1]) 0)=k1 from rfl,h6] at hg1
    simpa[fld,nth,strOf] using hg1
  |false=>
  rw[h6,cond_false] at hl hQ ho1'
  rw[Br_false]
  cases h7:k1==7 with
  |true=>
   rw[h7,cond_true] at hl hQ ho1'
   rw[Br_true]
   have ho2':=(Bool.and_eq_true _ _▸ho1').2
   have hb0:=pos0_of (Bool.and_eq_true _ _▸ho2').1
   have hb1:=eq_of_beq (Bool.and_eq_true _ _▸ho2').2
   obtain⟨y,l,e⟩:∃y l,elsOf a1=y::l:=by
    cases h:elsOf a1 with
    |nil=>rw[h] at hb1;simp at hb1;omega
    |cons y l=>exact⟨y,l,rfl⟩
   rw[e] at hl hQ hb1 hsub
   simp only[List.length_append,List.length_cons,List.length_nil] at hl
   refine casesW (lb:=elsOf b1) ih hx e rfl (by simp at hb1;omega) (hsub y (by simp)) (λz hz=>hsub z (List.mem_cons_of_mem _ hz)) hpt eu.1.1 hw (by rw[List.map_cons] at hl;omega) λg1 hg1=>⟨trivial,hQ g1 hg1⟩
  |false=>
  rw[h7,cond_false] at hl hQ ho1'
  rw[Br_false]
  cases h8:k1==8 with
  |true=>
   rw[h8,cond_true] at hl hQ ho1'
   rw[Br_true]
   simp only[List.length_append] at hl
   refine put_ok hw rfl (by simp) (by simp[catD,strOf];omega) λg1 hg1=>?_
   refine loopUp (len:=(elsOf a1).length) (λi=>∀g1 b1,Wr g1 w q b1→b1++tAs (((elsOf a1).drop i).map absEx)=b++(s1++tAs ((elsOf a1).map absEx))→L27_19 w a1 ((elsOf a1).length:Int) (i:Int) g1 Qf) ?_ ?_ 0 (Nat.zero_le _) g1 _ hg1 (by simp[catD,strOf])
   ·intro g1 b1 h1 h2
    refine w27_19 ?_
    rw[Br_ge]
    rw[List.drop_length,List.map_nil,tAs,List.append_nil] at h2
    exact hQ _ (h2▸h1)
   ·intro i hi ih2 g1 b1 h1 h2
    refine w27_19 ?_
    rw[Br_lt hi,getE_nat hi]
    rw[drop_map_cons hi,tAs] at h2
    have hlen:=congrArg List.length h2
    simp only[List.length_append,List.length_cons,List.length_nil] at hlen
    refine⟨inB hi,put_ok h1 rfl (by simp) (by simp[catD,strOf];omega) λg2 k2=>atomW ih (hsub _ (List.getElem_mem hi)) k2 (by simp[catD,strOf];omega) λg3 h3=>⟨trivial,?_⟩⟩
    rw[wrap_nat (by omega)]
    exact ih2 _ _ h3 (by rw[←h2];simp[catD,strOf])
  |false=>
  rw[h8,cond_false] at hl hQ ho1'
  rw[Br_false]
  cases h9:k1==9 with
  |true=>
   rw[h9,cond_true] at hl hQ ho1'
   rw[Br_true]
   obtain⟨y,z,e⟩:=two_of (Bool.and_eq_true _ _▸ho1').2
   have hy:=hsub y (by rw[e];simp)
   have hz:=hsub z (by rw[e];simp)
   rw[e] at hl hQ⊢
   rw[show getE [y,z] 0=y from rfl,show getE [y,z] 1=z from rfl]
   rw[List.map_cons,List.map_cons,List.map_nil,tPr,tA0] at hl hQ
   simp only[List.length_append,List.length_cons,List.length_nil] at hl
   refine⟨inB (i:=0) (by simp),atomW ih hy hw (by omega) λg1 hg1=>⟨trivial,put_ok hg1 rfl (by simp) (by simp[catD,strOf];omega) λg2 hg2=>⟨inB (i:=1) (by simp),atomW ih hz hg2 (by simp[catD,strOf];omega) λg3 hg3=>⟨trivial,hQ g3 ?_⟩⟩⟩⟩
   simpa[catD,strOf] using hg3
  |false=>
  rw[h9,cond_false] at hl hQ ho1'
  rw[Br_false]
  cases h10:k1==10 with
  |true=>
   rw[h10,cond_true] at hl hQ ho1'
   rw[Br_true]
   obtain⟨y,e⟩:=one_of (Bool.and_eq_true _ _▸ho1').2
   have hy:=hsub y (by rw[e];simp)
   rw[e] at hl hQ⊢
   rw[show getE [y] 0=y from rfl]
   rw[List.map_cons,List.map_nil,tA0] at hl hQ
   simp only[List.length_append,List.length_cons,List.length_nil] at hl
   refine put_ok hw rfl (by simp) (by simp[catD,strOf];omega) λg1 hg1=>⟨inB (i:=0) (by simp),atomW ih hy hg1 (by simp[catD,strOf];omega) λg2 hg2=>⟨trivial,hQ g2 ?_⟩⟩
   simpa[catD,strOf] using hg2
  |false=>
   rw[h10] at ho1'
   cases ho1'
end Go.Proofs.YtmlghadphdpbjaaGreatDoor.Pa
