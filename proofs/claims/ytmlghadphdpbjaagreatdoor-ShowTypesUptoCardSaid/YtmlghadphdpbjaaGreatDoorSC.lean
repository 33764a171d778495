/- Show: the program's writer on types and patterns. Show: the program's writer on expressions. -/
import Derived.Test.YtmlghadphdpbjaaGreatDoorSB
set_option linter.all false
set_option autoImplicit false
set_option maxRecDepth 100000
namespace Go.Proofs.YtmlghadphdpbjaaGreatDoor.Pa
open Go Go.Proofs.YtmlghadphdpbjaaGreatDoor.Am
theorem okTys_get:∀{l:List Ty},okTys l=true→∀t∈l,okTy t=true
 |x::l,h,t,ht=>by
  rw[okTys,Bool.and_eq_true] at h
  rcases List.mem_cons.1 ht with rfl|ht
  ·exact h.1
  ·exact okTys_get h.2 t ht
theorem brk_t(t:Str):brk true t=[40]++(t++[41]):=rfl
theorem brk_f(t:Str):brk false t=t:=rfl
theorem brk_ge(c:Bool)(t:Str):t.length≤(brk c t).length:=by unfold brk;cases c<;>simp only[cond_true,cond_false,List.length_append]<;>omega
theorem two_of{l:List Dat}(h:(l.length:Int)==2):∃x y,l=[x,y]:=by
 have h:l.length=2:=by have:=eq_of_beq h;omega
 match l,h with
 |[x,y],_=>exact⟨x,y,rfl⟩
theorem els_lt{y x:Dat}{l:List Dat}(h:elsOf x=l)(hy:y∈l):SizeOf.sizeOf y<SizeOf.sizeOf x:=by
 subst h
 obtain⟨i,hi,rfl⟩:=List.getElem_of_mem hy
 exact sizeOf_el hi
def TyW(k:Nat):Prop:=∀(x:Dat) (g:Glob) (w q:Nat) (b:Str) (Qf:OGP),SizeOf.sizeOf x<k→HasTy TT 28 x→okTy (absTy x)=true→Wr g w q b→b.length+(tTy (absTy x)).length≤2^40→
 (∀g',Wr g' w q (b++tTy (absTy x))→Qf (.val (.tuple [])) g')→EvF TT 33 [.ptr (some (w,0)),x] g Qf
section
variable{g:Glob}{q w k:Nat}{b:Str}{Qf:OGP}{x:Dat}
theorem betweenT(ih:TyW k)(hk:SizeOf.sizeOf x<k)(hx:HasTy TT 28 x)(ho:okTy (absTy x)=true)(hw:Wr g w q b)(hl:b.length+(tTy (absTy x)).length+2≤2^40)
 (hQ:∀g',Wr g' w q (b++brk true (tTy (absTy x)))→Qf (.val (.tuple [])) g'):EvF TT 70 [.ptr (some (w,0)),.bnd 33 (.ptr (some (w,0))),x] g Qf:=by
 refine w70 hx (put_ok hw rfl (by simp) (by simp[catD,strOf];omega) λg1 h1=>?_)
 refine ih x g1 w q _ _ hk hx ho h1 (by simp[catD,strOf];omega) λg2 h2=>⟨trivial,put_ok h2 rfl (by simp) (by simp[catD,strOf];omega) λg3 h3=>hQ g3 ?_⟩
 simpa[catD,strOf,brk_t] using h3
theorem fields_ok(ih:TyW k)(hk:SizeOf.sizeOf x≤k)(hx:HasTy TT 26 x)(ho:okTys ((elsOf x).map absTy)=true)(hw:Wr g w q b)(hl:b.length+(tFs ((elsOf x).map absTy)).length≤2^40)
 (hQ:∀g',Wr g' w q (b++tFs ((elsOf x).map absTy))→Qf (.val (.tuple [])) g'):EvF TT 71 [.ptr (some (w,0)),x] g Qf:=by
 have ex:=hx.els undTypes
 have exl:=ex.1.1
 refine w71 hx ?_
 refine loopUp (len:=(elsOf x).length) (λi=>∀g1 b1,Wr g1 w q b1→b1++tFs (((elsOf x).drop i).map absTy)=b++tFs ((elsOf x).map absTy)→L71_2 w 33 (.ptr (some (w,0))) x ((elsOf x).length:Int) (i:Int) g1 Qf) ?_ ?_ 0 (Nat.zero_le _) g b hw rfl
 ·intro g1 b1 h1 h2
  refine w71_2 ?_
  rw[Br_ge]
  rw[List.drop_length,List.map_nil,tFs,List.append_nil] at h2
  exact hQ _ (h2▸h1)
 ·intro i hi ih2 g1 b1 h1 h2
  refine w71_2 ?_
  rw[Br_lt hi,getE_nat hi]
  rw[drop_map_cons hi,tFs] at h2
  have hlen:=congrArg List.length h2
  have hok:=okTys_get ho _ (List.mem_map.2 ⟨_,List.getElem_mem hi,rfl⟩)
  have hsz:=sizeOf_el hi
  have hty:=ex.2 _ (List.getElem_mem hi)
  generalize (elsOf x)[i]=y at*
  have next:∀g3,Wr g3 w q (b1++([32]++brk (kTy (absTy y)==3||kTy (absTy y)==4&&!(noTy (absTy y))) (tTy (absTy y))))→L71_2 w 33 (.ptr (some (w,0))) x ((elsOf x).length:Int) (IntKind.i64.wrap ((i:Int)+1)) g3 Qf:=λg3 h3=>by
   rw[wrap_nat (by omega)]
   exact ih2 _ _ h3 (by rw[←h2];simp only[List.append_assoc])
  have hbr:=brk_len (kTy (absTy y)==3||kTy (absTy y)==4&&!(noTy (absTy y))) (tTy (absTy y))
  have hbr2:(tTy (absTy y)).length≤(brk (kTy (absTy y)==3||kTy (absTy y)==4&&!(noTy (absTy y))) (tTy (absTy y))).length:=brk_ge _ _
  simp only[List.length_append,List.length_cons,List.length_nil] at hlen
  refine⟨inB hi,put_ok h1 rfl (by simp) (by simp[catD,strOf];omega) λg2 k2=>?_⟩
  have goB:(kTy (absTy y)==3||kTy (absTy y)==4&&!(noTy (absTy y)))=true→EvF TT 70 [.ptr (some (w,0)),.bnd 33 (.ptr (some (w,0))),y] g2 (KQ Qf λv g'=>RetT v []∧L71_2 w 33 (.ptr (some (w,0))) x ((elsOf x).length:Int) (IntKind.i64.wrap ((i:Int)+1)) g' Qf):=λhc=>by
   rw[hc,brk_t] at hlen
   simp only[List.length_append,List.length_cons,List.length_nil] at hlen
   rw[hc] at next
   refine betweenT ih (by omega) hty hok k2 (by simp[catD,strOf];omega) λg3 h3=>⟨trivial,next g3 ?_⟩
   simpa[catD,strOf] using h3
  have goP:(kTy (absTy y)==3||kTy (absTy y)==4&&!(noTy (absTy y)))=false→EvF TT 33 [.ptr (some (w,0)),y] g2 (KQ Qf λv g'=>RetT v []∧L71_2 w 33 (.ptr (some (w,0))) x ((elsOf x).length:Int) (IntKind.i64.wrap ((i:Int)+1)) g' Qf):=λhc=>by
   rw[hc,brk_f] at next
   refine ih y g2 w q _ _ (by omega) hty hok k2 (by simp[catD,strOf];omega) λg3 h3=>⟨trivial,next g3 ?_⟩
   simpa[catD,strOf] using h3
  clear hlen next hbr hbr2 h2
  obtain⟨k1,s1,n1,a1,rfl,hs1,t1⟩:=type_ty hty
  have e1:kTy (absTy (.agg [.int .i64 k1,.str s1,.int .i64 n1,a1]))=k1:=rfl
  have e2:noTy (absTy (.agg [.int .i64 k1,.str s1,.int .i64 n1,a1]))=(elsOf a1).isEmpty:=by
   show(absTyA a1).isEmpty=_
   rw[absTyA_map]
   cases elsOf a1<;>rfl
  rw[e1,e2] at goB goP
  refine Br_iff.2 ⟨λh3=>goB ?_,λh3=>Br_iff.2 ⟨λh4=>Br_iff.2 ⟨λh5=>goB ?_,λh5=>goP ?_⟩,λh4=>goP ?_⟩⟩
  ·rw[show(k1==3)=true from h3];rfl
  ·rw[show(k1==3)=false from h3,show(k1==4)=true from h4]
   have h5:0<((elsOf a1).length:Int):=of_decide_eq_true h5
   cases h:elsOf a1 with
   |nil=>rw[h] at h5;simp at h5;try omega
   |cons _ _=>rfl
  ·rw[show(k1==3)=false from h3,show(k1==4)=true from h4]
   have h5:¬0<((elsOf a1).length:Int):=of_decide_eq_false h5
   cases h:elsOf a1 with
   |nil=>rfl
   |cons _ _=>rw[h] at h5;simp at h5;try omega
  ·rw[show(k1==3)=false from h3,show(k1==4)=false from h4];rfl
end
theorem typ_ok:∀k,TyW k
 |0=>λx _ _ _ _ _ hk=>by omega
 |k+1=>λx g w q b Qf hk hx ho hw hl hQ=>by
  have ih:=typ_ok k
  refine w33 hx ?_
  obtain⟨k1,s1,n1,a1,rfl,hs1,t1⟩:=type_ty hx
  have hc:=sizeOf_cell (cs:=[.int .i64 k1,.str s1,.int .i64 n1,a1]) (c:=a1) (by simp)
  have ex:=t1.els undTypes
  rw[show absTy (.agg [.int .i64 k1,.str s1,.int .i64 n1,a1])=.mk k1 s1 n1 (absTyA a1) from rfl,absTyA_map] at ho hl hQ
  rw[okTy,Bool.and_eq_true] at ho
  obtain⟨ho1,ho2⟩:=ho
  rw[List.length_map] at ho1
  rw[show intOf (fld (.agg [.int .i64 k1,.str s1,.int .i64 n1,a1]) 0)=k1 from rfl,show strOf (fld (.agg [.int .i64 k1,.str s1,.int .i64 n1,a1]) 1)=s1 from rfl,show fld (.agg [.int .i64 k1,.str s1,.int .i64 n1,a1]) 3=a1 from rfl]
  rw[tTy] at hl hQ
  cases h1:k1==1 with
  |true=>
   rw[h1,cond_true] at hl hQ
   rw[Br_true]
   exact put_ok hw rfl (by simp) (by simp[catD,strOf] at hl⊢;omega) λg1 k1=>hQ g1 (by simpa[catD,strOf] using k1)
  |false=>
   rw[h1,cond_false] at hl hQ
   rw[Br_false]
   cases h2:k1==2 with
   |true=>
    rw[h2,cond_true] at hl hQ
    rw[Br_true]
    exact put_ok hw rfl (by simp) (by simp[catD,strOf] at hl⊢;omega) λg1 k1=>hQ g1 (by simpa[catD,strOf] using k1)
   |false=>
    rw[h2,cond_false] at hl hQ
    rw[Br_false]
    cases h3:k1==3 with
    |true=>
     rw[h3,cond_true] at hl hQ
     rw[Br_true]
     have hn:((elsOf a1).length:Int)==2:=by rw[okTy1,h1,h2,h3] at ho1;simp at ho1;simpa using ho1.1.2
     obtain⟨y,z,e⟩:=two_of hn
     have hy:=els_lt e (y:=y) (by simp)
     have hz:=els_lt e (y:=z) (by simp)
     have ty:=ex.2 y (by rw[e];simp)
     have tz:=ex.2 z (by rw[e];simp)
     rw[e] at ho2 hl hQ⊢
     rw[List.map_cons,List.map_cons,List.map_nil] at ho2 hl hQ
     have oy:=okTys_get ho2 _ List.mem_cons_self
     have oz:=okTys_get ho2 (absTy z) (by simp)
     rw[tFn,tT0] at hl hQ
     have k3:intOf (fld (getE [y,z] 0) 0)=kTy (absTy y):=by
      obtain⟨k2,s2,n2,a2,rfl,_,_⟩:=type_ty ty
      rfl
     rw[show getE [y,z] 1=z from rfl,k3,show getE [y,z] 0=y from rfl]
     have hbr:(tTy (absTy y)).length≤(brk (kTy (absTy y)==3) (tTy (absTy y))).length:=brk_ge _ _
     simp only[List.length_append,sTo_len] at hl
     have rest:∀g2,Wr g2 w q (b++brk (kTy (absTy y)==3) (tTy (absTy y)))→∃x,HasTy TT 68 x∧GOk TT 68 g2 w 0 x∧∃t v fn,x=Dat.iface t v∧Meth TT t "athanor/show.put" fn∧EvF TT fn [v,Dat.sl 1 [Dat.str [32,45,62,32]]] g2 (KQ Qf λv g'=>RetT v []∧InB 1 (elsOf a1).length∧EvF TT 33 [Dat.ptr (some (w,0)),z] g' (KQ Qf λv g'=>RetT v []∧Qf (Out.val (Val.tuple [])) g')):=λg2 hg2=>by
      refine put_ok hg2 rfl (by simp) (by simp[catD,strOf];omega) λg3 hg3=>⟨by rw[e];exact inB (i:=1) (by simp),?_⟩
      refine ih z g3 w q _ _ (by omega) tz oz hg3 (by simp[catD,strOf];omega) λg4 hg4=>⟨trivial,hQ g4 ?_⟩
      simpa[catD,strOf,sTo] using hg4
     rw[e] at rest
     refine⟨inB (i:=0) (by simp),?_⟩
     cases h4:kTy (absTy y)==3 with
     |true=>
      rw[h4,brk_t] at hl
      rw[h4] at rest
      simp only[List.length_append,List.length_cons,List.length_nil] at hl
      rw[Br_true]
      exact⟨inB (i:=0) (by simp),betweenT ih (by omega) ty oy hw (by omega) λg2 hg2=>⟨trivial,rest g2 hg2⟩⟩
     |false=>
      rw[h4,brk_f] at hl rest
      rw[Br_false]
      exact⟨inB (i:=0) (by simp),ih y g w q _ _ (by omega) ty oy hw (by omega) λg2 hg2=>⟨trivial,rest g2 hg2⟩⟩
    |false=>
     rw[h3,cond_false] at hl hQ
     rw[Br_false]
     simp only[List.length_append] at hl
     refine put_ok hw rfl (by simp) (by simp[catD,strOf] at hl⊢;omega) λg1 hg1=>?_
     refine fields_ok ih (by omega) t1 ho2 hg1 (by simp[catD,strOf] at hl⊢;omega) λg2 hg2=>⟨trivial,hQ g2 ?_⟩
     simpa[catD,strOf] using hg2
end Go.Proofs.YtmlghadphdpbjaaGreatDoor.Pa
namespace Go.Proofs.YtmlghadphdpbjaaGreatDoor.Pa
open Go Go.Proofs.YtmlghadphdpbjaaGreatDoor.Am
structure Sub(k:Nat)(x:Dat):Prop where
 lt:SizeOf.sizeOf x<k
 ty:HasTy TT 25 x
 ok:okEx (absEx x)=true
section
variable{g:Glob}{q w k:Nat}{b:Str}{Qf:OGP}{x y z:Dat}
end
end Go.Proofs.YtmlghadphdpbjaaGreatDoor.Pa
