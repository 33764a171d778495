/- Show: the document's pen. Show: the document's pen on expressions. -/
import Derived.Test.YtmlghadphdpbjaaGreatDoorSC
set_option linter.all false
set_option autoImplicit false
set_option maxRecDepth 100000
namespace Go.Proofs.YtmlghadphdpbjaaGreatDoor.Pa
open Go Go.Proofs.YtmlghadphdpbjaaGreatDoor.Am
theorem leLe{a b:Nat}(h:a≤b):a.le b:=h
def Pn(g:Glob)(q:Nat)(full:Str):Prop:=∃b,PageIs g q b∧CutOk b full∧b.length≤2^30
section
variable{g:Glob}{q k:Nat}{full:Str}{Qf:OGP}{ds:List Dat}{x y z:Dat}{A B:Prop}
theorem Pn.small(h:Pn g q full)(hA:Pn g q full→A)(hB:(∀s,Pn g q (full++s))→B):∃x,HasTy TT 64 x∧GOk TT 64 g q 0 x∧Br (decide ((↑(elsOf x).length:Int)≤8192)) A B:=by
 obtain⟨b,h1,h2,h3⟩:=h
 obtain⟨D,r1,r2,r3,r4⟩:=h1.read (by omega)
 refine⟨D,r2,r3,?_⟩
 rw[r4,bytesUp_len]
 exact Br_iff.2 ⟨λ_=>hA ⟨b,h1,h2,h3⟩,λh=>hB λs=>⟨b,h1,h2.stop (by have:=of_decide_eq_false h;omega) s,h3⟩⟩
theorem Pn.great(h:Pn g q full)(hA:(∀s,Pn g q (full++s))→A)(hB:B):∃x,HasTy TT 64 x∧GOk TT 64 g q 0 x∧Br (decide (8192<(↑(elsOf x).length:Int))) A B:=by
 obtain⟨b,h1,h2,h3⟩:=h
 obtain⟨D,r1,r2,r3,r4⟩:=h1.read (by omega)
 refine⟨D,r2,r3,?_⟩
 rw[r4,bytesUp_len]
 exact Br_iff.2 ⟨λh=>hA λs=>⟨b,h1,h2.stop (by have:=of_decide_eq_true h;omega) s,h3⟩,λ_=>hB⟩
theorem penPut(hp:Pn g q full)(hs:strsD ds=true)(hn:ds.length≤64)(hl:(catD ds).length≤2^20)(hQ:∀g',Pn g' q (full++catD ds)→Qf (.val (.tuple [])) g'):EvF TT 44 [.ptr (some (q,0)),.sl 1 ds] g Qf:=by
 refine w44 (strs_ty hs hl (by omega) hn) ?_
 refine loopUp (len:=ds.length) (λi=>∀g1 f1,Pn g1 q f1→f1++catD (ds.drop i)=full++catD ds→L44_1 q (.sl 1 ds) (i:Int) g1 Qf) ?_ ?_ 0 (Nat.zero_le _) g full hp rfl
 ·intro g1 f1 h1 h2
  refine w44_1 ?_
  show Br (decide ((ds.length:Int)<(ds.length:Int))) _ _
  rw[Br_ge]
  rw[List.drop_length,catD,List.append_nil] at h2
  exact hQ _ (h2▸h1)
 ·intro i hi ih g1 f1 h1 h2
  refine w44_1 ?_
  have hd:ds.drop i=ds[i]::ds.drop (i+1):=List.drop_eq_getElem_cons hi
  obtain⟨s,hsi⟩:=strsD_get hs i hi
  have he:getE (elsOf (.sl 1 ds)) (i:Int)=.str s:=(getE_nat hi).trans hsi
  have hsl:s.length≤2^20:=by
   obtain⟨s',e,hs'⟩:=strsD_len hs hl _ (List.getElem_mem hi)
   rw[hsi] at e
   cases e
   exact hs'
  show Br (decide ((i:Int)<(ds.length:Int))) _ _
  rw[Br_lt hi,he]
  obtain⟨b1,p1,p2,p3⟩:=h1
  obtain⟨D,r1,r2,r3,r4⟩:=p1.read (by omega)
  refine⟨D,r2,r3,?_⟩
  rw[r4,bytesUp_len]
  refine Br_iff.2 ⟨λhc=>?_,λhc=>?_⟩
  ·have hc:b1.length≤8192:=by have:=of_decide_eq_true hc;omega
   obtain⟨B',r,g2,t1,t2,t3,t4,t5,t6⟩:=page_put p1 s
   obtain rfl:D=B':=by rw[t1] at r1;cases r1;rfl
   refine⟨D,r2,r3,inB hi,?_,r,g2,t3,t4,?_⟩
   ·rw[r4]
    simp only[fld,strOf,bytesUp_len]
    exact fits1 (by omega)
   ·rw[wrap_nat (by omega)]
    refine ih _ (f1++s) ⟨b1++s,t5,p2.go hc s,by rw[List.length_append];omega⟩ ?_
    rw[hd,catD,hsi] at h2
    rw[List.append_assoc]
    exact h2
  ·have hc:8192<b1.length:=by have:=of_decide_eq_false hc;omega
   exact hQ _ (h2▸⟨b1,p1,p2.stop hc _,p3⟩)
theorem cut_le{s:Str}(h:s.length≤8192):cut s=[.str s,.int .i64 0]:=by
 unfold cut
 rw[show Nat.blt 8192 s.length=false from Bool.eq_false_iff.2 λe=>by have:=Nat.le_of_ble_eq_true e;omega]
 rfl
theorem cut_gt{s:Str}(h:8192<s.length):cut s=[.str [],.int .i64 2]:=by
 unfold cut
 rw[show Nat.blt 8192 s.length=true from Nat.ble_eq_true_of_le (by omega)]
 rfl
theorem told_ok(hp:Pn g q full)(hQ:Qf (.val (.tuple ((cut full).map .d))) g):EvF TT 32 [.ptr (some (q,0))] g Qf:=by
 obtain⟨b,h1,h2,h3⟩:=hp
 obtain⟨D,r1,r2,r3,r4⟩:=h1.read (by omega)
 refine w32 ⟨D,r2,r3,?_⟩
 rw[r4,bytesUp_len]
 refine Br_iff.2 ⟨λh=>?_,λh=>?_⟩
 ·have h:=of_decide_eq_true h
  have:8192<full.length:=by
   rcases h2 with rfl|⟨_,h2⟩
   ·omega
   ·exact h2
  rw[cut_gt this] at hQ
  exact hQ
 ·have h:=of_decide_eq_false h
  have e:b=full:=h2.told.2 (by omega)
  subst e
  refine⟨D,r2,r3,?_⟩
  rw[r4,bytesD_up]
  rw[cut_le (by omega)] at hQ
  exact hQ
theorem r11Int_dec:∀(j:Nat) {n:Int} {Qf:OGP},0≤n→n<10^(j+1)→j≤10→Qf (.val (.d (.str (decS n.toNat)))) g→EvF TT 65 [.int .i64 n] g Qf
 |j,n,Qf,h0,hn,hj,hQ=>by
  have p10:(10:Int)^(j+1)≤10^11:=by exact_mod_cast Nat.pow_le_pow_right (by omega) (by omega)
  have hlt:n<10^11:=by omega
  refine w65 ?_
  rw[show decide (n<0)=false from decide_eq_false (by omega),Br_false]
  by_cases h:n<10
  ·rw[show decide (n<10)=true from decide_eq_true h,Br_true]
   have e:decS n.toNat=[UInt8.ofNat (48+n.toNat)]:=by unfold decS;rw[if_pos (by omega)]
   rw[e] at hQ
   have e2:(IntKind.u8.wrap (IntKind.i64.wrap (48+n)))=48+n:=by
    rw[wrap_id (by omega) (by omega)]
    unfold IntKind.wrap
    simp[IntKind.bits,IntKind.signed]
    omega
   rw[e2]
   simp only[intOf]
   rw[show(48+n).toNat=48+n.toNat by omega]
   exact hQ
  ·rw[show decide (n<10)=false from decide_eq_false h,Br_false]
   obtain⟨j',rfl⟩:∃j',j=j'+1:=by
    cases j with
    |zero=>exact absurd (by simpa using hn) h
    |succ j'=>exact⟨j',rfl⟩
   have ed:n.tdiv 10=n/10:=Int.tdiv_eq_ediv_of_nonneg h0
   have em:n.tmod 10=n%10:=Int.tmod_eq_emod_of_nonneg h0
   rw[ed,em]
   have ew:IntKind.i64.wrap (n/10)=n/10:=wrap_id (by omega) (by omega)
   rw[ew]
   refine⟨neZ (by decide),r11Int_dec j' (by omega) (by rw[Int.pow_succ] at hn;omega) (by omega) ?_⟩
   have e:decS n.toNat=decS (n/10).toNat++[UInt8.ofNat (48+(n%10).toNat)]:=by
    rw[decS,if_neg (by omega)]
    rw[show n.toNat/10=(n/10).toNat by omega,show n.toNat%10=(n%10).toNat by omega]
   have hlen:(decS (n/10).toNat).length≤11:=by
    have:=decS_len 10 (n/10).toNat (by omega)
    omega
   have e2:(IntKind.u8.wrap (IntKind.i64.wrap (48+n%10)))=48+n%10:=by
    rw[wrap_id (by omega) (by omega)]
    unfold IntKind.wrap
    simp[IntKind.bits,IntKind.signed]
    omega
   refine⟨_,leLe (by omega),rfl,neZ (by decide),leLe (by simp only[List.length_cons,List.length_nil];omega),?_⟩
   rw[e2]
   simp only[intOf]
   rw[show(48+n%10).toNat=48+(n%10).toNat by omega,←e]
   exact hQ
theorem r11Int_sh{n:Int}(hn:inI n=true)(hQ:(tInt n).length≤11→Qf (.val (.d (.str (tInt n)))) g):EvF TT 65 [.int .i64 n] g Qf:=by
 have hQ:=hQ (tInt_len hn)
 unfold inI at hn
 rw[Bool.and_eq_true] at hn
 have n1:=of_decide_eq_true hn.1
 have n2:=of_decide_eq_true hn.2
 unfold tInt at hQ
 by_cases h:n<0
 ·rw[if_pos h] at hQ
  refine w65 ?_
  rw[show decide (n<0)=true from decide_eq_true h,Br_true]
  have e2:IntKind.i64.wrap (0-n)=-n:=by rw[wrap_id (by omega) (by omega)];omega
  rw[e2]
  have hlen:(decS (-n).toNat).length≤11:=by
   have:=decS_len 10 (-n).toNat (by omega)
   omega
  exact r11Int_dec 10 (by omega) (by omega) (by omega) ⟨_,leLe (by omega),rfl,leLe (by omega),hQ⟩
 ·rw[if_neg h] at hQ
  exact r11Int_dec 10 (by omega) (by omega) (by omega) hQ
end
def TyPn(k:Nat):Prop:=∀(x:Dat) (g:Glob) (q:Nat) (full:Str) (Qf:OGP),SizeOf.sizeOf x<k→HasTy TT 28 x→okTy (absTy x)=true→Pn g q full→
 (∀g',Pn g' q (full++tTy (absTy x))→Qf (.val (.tuple [])) g')→EvF TT 35 [.ptr (some (q,0)),x] g Qf
section
variable{g:Glob}{q k:Nat}{full:Str}{Qf:OGP}{x:Dat}
theorem bracketsP(ih:TyPn k)(hk:SizeOf.sizeOf x<k)(hx:HasTy TT 28 x)(ho:okTy (absTy x)=true)(hp:Pn g q full)
 (hQ:∀g',Pn g' q (full++brk true (tTy (absTy x)))→Qf (.val (.tuple [])) g'):EvF TT 72 [.ptr (some (q,0)),x] g Qf:=by
 refine w72 hx (penPut hp rfl (by simp) (by simp[catD,strOf]) λg1 h1=>⟨trivial,?_⟩)
 refine ih x g1 q _ _ hk hx ho h1 λg2 h2=>⟨trivial,penPut h2 rfl (by simp) (by simp[catD,strOf]) λg3 h3=>⟨trivial,hQ g3 ?_⟩⟩
 simpa[catD,strOf,brk_t] using h3
theorem typesP(ih:TyPn k)(hk:SizeOf.sizeOf x≤k)(hx:HasTy TT 26 x)(ho:okTys ((elsOf x).map absTy)=true)(hp:Pn g q full)
 (hQ:∀g',Pn g' q (full++tFs ((elsOf x).map absTy))→Qf (.val (.tuple [])) g'):EvF TT 73 [.ptr (some (q,0)),x] g Qf:=by
 have ex:=hx.els undTypes
 have exl:=ex.1.1
 refine w73 hx ?_
 refine loopUp (len:=(elsOf x).length) (λi=>∀g1 f1,Pn g1 q f1→f1++tFs (((elsOf x).drop i).map absTy)=full++tFs ((elsOf x).map absTy)→L73_1 q x (i:Int) g1 Qf) ?_ ?_ 0 (Nat.zero_le _) g full hp rfl
 ·intro g1 f1 h1 h2
  refine w73_1 ?_
  rw[Br_ge]
  rw[List.drop_length,List.map_nil,tFs,List.append_nil] at h2
  exact hQ _ (h2▸h1)
 ·intro i hi ih2 g1 f1 h1 h2
  refine w73_1 ?_
  rw[Br_lt hi,getE_nat hi]
  have h2':=h2
  rw[drop_map_cons hi,tFs] at h2
  have hok:=okTys_get ho _ (List.mem_map.2 ⟨_,List.getElem_mem hi,rfl⟩)
  have hsz:=sizeOf_el hi
  have hty:=ex.2 _ (List.getElem_mem hi)
  generalize (elsOf x)[i]=y at*
  refine h1.small (λh1=>penPut h1 rfl (by simp) (by simp[catD,strOf]) λg2 k2=>⟨trivial,inB hi,?_⟩) λh=>hQ _ (h2'▸h _)
  have next:∀g3,Pn g3 q (f1++([32]++brk (kTy (absTy y)==3||kTy (absTy y)==4&&!(noTy (absTy y))) (tTy (absTy y))))→L73_1 q x (IntKind.i64.wrap ((i:Int)+1)) g3 Qf:=λg3 h3=>by
   rw[wrap_nat (by omega)]
   exact ih2 _ _ h3 (by rw[←h2];simp only[List.append_assoc])
  have goB:(kTy (absTy y)==3||kTy (absTy y)==4&&!(noTy (absTy y)))=true→EvF TT 72 [.ptr (some (q,0)),y] g2 (KQ Qf λv g'=>RetT v []∧L73_1 q x (IntKind.i64.wrap ((i:Int)+1)) g' Qf):=λhc=>by
   rw[hc] at next
   refine bracketsP ih (by omega) hty hok k2 λg3 h3=>⟨trivial,next g3 ?_⟩
   simpa[catD,strOf] using h3
  have goP:(kTy (absTy y)==3||kTy (absTy y)==4&&!(noTy (absTy y)))=false→EvF TT 35 [.ptr (some (q,0)),y] g2 (KQ Qf λv g'=>RetT v []∧L73_1 q x (IntKind.i64.wrap ((i:Int)+1)) g' Qf):=λhc=>by
   rw[hc,brk_f] at next
   refine ih y g2 q _ _ (by omega) hty hok k2 λg3 h3=>⟨trivial,next g3 ?_⟩
   simpa[catD,strOf] using h3
  clear next h2 h2'
  obtain⟨k1,s1,n1,a1,rfl,hs1,t1⟩:=type_ty hty
  have e1:kTy (absTy (.agg [.int .i64 k1,.str s1,.int .i64 n1,a1]))=k1:=rfl
  have e2:noTy (absTy (.agg [.int .i64 k1,.str s1,.int .i64 n1,a1]))=(elsOf a1).isEmpty:=by
   show(absTyA a1).isEmpty=_
   rw[absTyA_map]
   cases elsOf a1<;>rfl
  rw[e1,e2] at goB goP
  refine Br_iff.2 ⟨λh3=>⟨inB hi,goB ?_⟩,λh3=>⟨inB hi,Br_iff.2 ⟨λh4=>⟨inB hi,Br_iff.2 ⟨λh5=>⟨inB hi,goB ?_⟩,λh5=>⟨inB hi,goP ?_⟩⟩⟩,λh4=>⟨inB hi,goP ?_⟩⟩⟩⟩
  ·rw[show(k1==3)=true from h3];rfl
  ·rw[show(k1==3)=false from h3,show(k1==4)=true from h4]
   have h5:0<((elsOf a1).length:Int):=of_decide_eq_true h5
   cases h:elsOf a1 with
   |nil=>rw[h] at h5;simp at h5;try omega
   |cons _ _=>rfl
  ·rw[show(k1==3)=false from h3,show(k1==4)=true from h4]
   have h5:¬0<((elsOf a1).length:Int):=of_decide_eq_false h5
   cases h:elsOf a1 with
   |nil=>rfl
   |cons _ _=>rw[h] at h5;simp at h5;try omega
  ·rw[show(k1==3)=false from h3,show(k1==4)=false from h4];rfl
end
theorem typP:∀k,TyPn k
 |0=>λx _ _ _ _ hk=>by omega
 |k+1=>λx g q full Qf hk hx ho hp hQ=>by
  have ih:=typP k
  refine w35 hx ?_
  obtain⟨k1,s1,n1,a1,rfl,hs1,t1⟩:=type_ty hx
  have hc:=sizeOf_cell (cs:=[.int .i64 k1,.str s1,.int .i64 n1,a1]) (c:=a1) (by simp)
  have ex:=t1.els undTypes
  rw[show absTy (.agg [.int .i64 k1,.str s1,.int .i64 n1,a1])=.mk k1 s1 n1 (absTyA a1) from rfl,absTyA_map] at ho hQ
  rw[okTy,Bool.and_eq_true] at ho
  obtain⟨ho1,ho2⟩:=ho
  rw[List.length_map] at ho1
  have hsl:=okTy1_len ho1
  rw[show intOf (fld (.agg [.int .i64 k1,.str s1,.int .i64 n1,a1]) 0)=k1 from rfl,show strOf (fld (.agg [.int .i64 k1,.str s1,.int .i64 n1,a1]) 1)=s1 from rfl,show fld (.agg [.int .i64 k1,.str s1,.int .i64 n1,a1]) 3=a1 from rfl]
  rw[tTy] at hQ
  cases h1:k1==1 with
  |true=>
   rw[h1,cond_true] at hQ
   rw[Br_true]
   exact penPut hp rfl (by simp) (by simp[catD,strOf]) λg1 k1=>⟨trivial,hQ g1 (by simpa[catD,strOf] using k1)⟩
  |false=>
   rw[h1,cond_false] at hQ
   rw[Br_false]
   cases h2:k1==2 with
   |true=>
    rw[h2,cond_true] at hQ
    rw[Br_true]
    exact penPut hp rfl (by simp) (by simp[catD,strOf];omega) λg1 k1=>⟨trivial,hQ g1 (by simpa[catD,strOf] using k1)⟩
   |false=>
    rw[h2,cond_false] at hQ
    rw[Br_false]
    cases h3:k1==3 with
    |true=>
     rw[h3,cond_true] at hQ
     rw[Br_true]
     have hn:((elsOf a1).length:Int)==2:=by rw[okTy1,h1,h2,h3] at ho1;simp at ho1;simpa using ho1.1.2
     obtain⟨y,z,e⟩:=two_of hn
     have hy:=els_lt e (y:=y) (by simp)
     have hz:=els_lt e (y:=z) (by simp)
     have ty:=ex.2 y (by rw[e];simp)
     have tz:=ex.2 z (by rw[e];simp)
     rw[e] at ho2 hQ⊢
     rw[List.map_cons,List.map_cons,List.map_nil] at ho2 hQ
     have oy:=okTys_get ho2 _ List.mem_cons_self
     have oz:=okTys_get ho2 (absTy z) (by simp)
     rw[tFn,tT0] at hQ
     have k3:intOf (fld (getE [y,z] 0) 0)=kTy (absTy y):=by
      obtain⟨k2,s2,n2,a2,rfl,_,_⟩:=type_ty ty
      rfl
     rw[show getE [y,z] 1=z from rfl,k3,show getE [y,z] 0=y from rfl]
     have rest:∀g2,Pn g2 q (full++brk (kTy (absTy y)==3) (tTy (absTy y)))→EvF TT 44 [Dat.ptr (some (q,0)),Dat.sl 1 [Dat.str [32,45,62,32]]] g2 (KQ Qf λv g'=>RetT v []∧InB 1 (elsOf a1).length∧EvF TT 35 [Dat.ptr (some (q,0)),z] g' (KQ Qf λv g'=>RetT v []∧Qf (Out.val (Val.tuple [])) g')):=λg2 hg2=>by
      refine penPut hg2 rfl (by simp) (by simp[catD,strOf]) λg3 hg3=>⟨trivial,by rw[e];exact inB (i:=1) (by simp),?_⟩
      refine ih z g3 q _ _ (by omega) tz oz hg3 λg4 hg4=>⟨trivial,hQ g4 ?_⟩
      simpa[catD,strOf,sTo] using hg4
     rw[e] at rest
     refine⟨inB (i:=0) (by simp),?_⟩
     cases h4:kTy (absTy y)==3 with
     |true=>
      rw[h4] at rest
      rw[Br_true]
      exact⟨inB (i:=0) (by simp),bracketsP ih (by omega) ty oy hp λg2 hg2=>⟨trivial,rest g2 hg2⟩⟩
     |false=>
      rw[h4,brk_f] at rest
      rw[Br_false]
      exact⟨inB (i:=0) (by simp),ih y g q _ _ (by omega) ty oy hp λg2 hg2=>⟨trivial,rest g2 hg2⟩⟩
    |false=>
     rw[h3,cond_false] at hQ
     rw[Br_false]
     refine penPut hp rfl (by simp) (by simp[catD,strOf];omega) λg1 hg1=>⟨trivial,?_⟩
     refine typesP ih (by omega) t1 ho2 hg1 λg2 hg2=>⟨trivial,hQ g2 ?_⟩
     simpa[catD,strOf] using hg2
theorem patP:∀(k:Nat) (x:Dat) (g:Glob) (q:Nat) (full:Str) (Qf:OGP),SizeOf.sizeOf x<k→HasTy TT 94 x→okPt (absPt x)=true→Pn g q full→
 (∀g',Pn g' q (full++tPt (absPt x))→Qf (.val (.tuple [])) g')→EvF TT 68 [.ptr (some (q,0)),x] g Qf
 |0=>λx _ _ _ _ hk=>by omega
 |k+1=>λx g q full Qf hk hx ho hp hQ=>by
  have ih:=patP k
  refine w68 hx ?_
  obtain⟨k1,s1,n1,a1,p1,rfl,hs1,t1⟩:=pat_ty hx
  have hc:=sizeOf_cell (cs:=[.int .i64 k1,.str s1,.int .i64 n1,a1,.int .i64 p1]) (c:=a1) (by simp)
  have ex:=t1.els undPats
  have exl:=ex.1.1
  have hf3:fld (.agg [.int .i64 k1,.str s1,.int .i64 n1,a1,.int .i64 p1]) 3=a1:=rfl
  rw[show absPt (.agg [.int .i64 k1,.str s1,.int .i64 n1,a1,.int .i64 p1])=.mk k1 s1 n1 (absPtA a1) p1 from rfl,absPtA_map] at ho hQ
  rw[okPt,Bool.and_eq_true] at ho
  obtain⟨ho1,ho2⟩:=ho
  rw[List.length_map] at ho1
  obtain⟨hsl,hin⟩:=okPt1_len ho1
  have hnone:(k1==1)=true∨(k1==3)=true→elsOf a1=[]:=λh=>by
   rw[okPt1] at ho1
   rcases h with h|h
   ·rw[h] at ho1;simp at ho1;exact ho1.2.2
   ·have h1:(k1==1)=false:=by rw[eq_of_beq h];rfl
    have h2:(k1==2)=false:=by rw[eq_of_beq h];rfl
    rw[h,h1,h2] at ho1;simp at ho1;exact ho1.2.2
  rw[tPt] at hQ
  have loop:∀g1 s,Pn g1 q (full++s)→(∀g',Pn g' q (full++(s++tPs ((elsOf a1).map absPt)))→Qf (.val (.tuple [])) g')→L68_8 q 0 (.agg [.int .i64 k1,.str s1,.int .i64 n1,a1,.int .i64 p1]) g1 Qf:=λg1 s hg1 hQ=>by
   generalize Dat.agg [.int .i64 k1,.str s1,.int .i64 n1,a1,.int .i64 p1]=X at*
   refine loopUp (len:=(elsOf a1).length) (λi=>∀g1 f1,Pn g1 q f1→f1++tPs (((elsOf a1).drop i).map absPt)=full++(s++tPs ((elsOf a1).map absPt))→L68_8 q (i:Int) X g1 Qf) ?_ ?_ 0 (Nat.zero_le _) g1 _ hg1 (by simp)
   ·intro g1 b1 h1 h2
    refine w68_8 ?_
    rw[hf3,Br_ge]
    rw[List.drop_length,List.map_nil,tPs,List.append_nil] at h2
    exact hQ _ (h2▸h1)
   ·intro i hi ih2 g1 f1 h1 h2
    refine w68_8 ?_
    rw[hf3,Br_lt hi,getE_nat hi]
    have h2':=h2
    rw[drop_map_cons hi,tPs] at h2
    have hok:=okPts_get ho2 _ (List.mem_map.2 ⟨_,List.getElem_mem hi,rfl⟩)
    have hsz:=sizeOf_el hi
    have hty:=ex.2 _ (List.getElem_mem hi)
    generalize (elsOf a1)[i]=y at*
    refine h1.small (λh1=>penPut h1 rfl (by simp) (by simp[catD,strOf]) λg2 k2=>⟨trivial,inB hi,?_⟩) λh=>hQ _ (h2'▸h _)
    have next:∀g3,Pn g3 q (f1++([32]++brk (!(noPt (absPt y))) (tPt (absPt y))))→L68_8 q (IntKind.i64.wrap ((i:Int)+1)) X g3 Qf:=λg3 h3=>by
     rw[wrap_nat (by omega)]
     exact ih2 _ _ h3 (by rw[←h2];simp only[List.append_assoc])
    have goB:(!(noPt (absPt y)))=true→EvF TT 44 [.ptr (some (q,0)),.sl 1 [.str [40]]] g2 (KQ Qf λv g'=>RetT v []∧InB (i:Int) (elsOf a1).length∧EvF TT 68 [.ptr (some (q,0)),y] g' (KQ Qf λv g'=>RetT v []∧EvF TT 44 [.ptr (some (q,0)),.sl 1 [.str [41]]] g' (KQ Qf λv g'=>RetT v []∧L68_8 q (IntKind.i64.wrap ((i:Int)+1)) X g' Qf))):=λhc=>by
     rw[hc] at next
     refine penPut k2 rfl (by simp) (by simp[catD,strOf]) λg3 h3=>⟨trivial,inB hi,ih y g3 q _ _ (by omega) hty hok h3 λg4 h4=>⟨trivial,penPut h4 rfl (by simp) (by simp[catD,strOf]) λg5 h5=>⟨trivial,next g5 ?_⟩⟩⟩
     simpa[catD,strOf,brk_t] using h5
    have goP:(!(noPt (absPt y)))=false→EvF TT 68 [.ptr (some (q,0)),y] g2 (KQ Qf λv g'=>RetT v []∧L68_8 q (IntKind.i64.wrap ((i:Int)+1)) X g' Qf):=λhc=>by
     rw[hc,brk_f] at next
     refine ih y g2 q _ _ (by omega) hty hok k2 λg3 h3=>⟨trivial,next g3 ?_⟩
     simpa[catD,strOf] using h3
    clear next h2 h2'
    obtain⟨k2,s2,n2,a2,p2,rfl,hs2,t2⟩:=pat_ty hty
    have e2:noPt (absPt (.agg [.int .i64 k2,.str s2,.int .i64 n2,a2,.int .i64 p2]))=(elsOf a2).isEmpty:=by
     show(absPtA a2).isEmpty=_
     rw[absPtA_map]
     cases elsOf a2<;>rfl
    rw[e2] at goB goP
    rw[show absPt (.agg [.int .i64 k2,.str s2,.int .i64 n2,a2,.int .i64 p2])=.mk k2 s2 n2 (absPtA a2) p2 from rfl,absPtA_map,okPt,Bool.and_eq_true,List.length_map] at hok
    refine Br_iff.2 ⟨λh4=>⟨inB hi,Br_iff.2 ⟨λh5=>goB ?_,λh5=>⟨inB hi,goP ?_⟩⟩⟩,λh4=>⟨inB hi,goP ?_⟩⟩
    ·have h5:0<((elsOf a2).length:Int):=of_decide_eq_true h5
     cases h:elsOf a2 with
     |nil=>rw[h] at h5;simp at h5;try omega
     |cons _ _=>rfl
    ·have h5:¬0<((elsOf a2).length:Int):=of_decide_eq_false h5
     cases h:elsOf a2 with
     |nil=>rfl
     |cons _ _=>rw[h] at h5;simp at h5;try omega
    ·have h4:(k2==4)=false:=h4
     have:=hok.1
     rw[okPt1,h4] at this
     have hz:elsOf a2=[]:=by
      cases q1:k2==1<;>cases q2:k2==2<;>cases q3:k2==3<;>simp[q1,q2,q3] at this<;>simp_all
     rw[hz]
     rfl
  rw[show intOf (fld (.agg [.int .i64 k1,.str s1,.int .i64 n1,a1,.int .i64 p1]) 0)=k1 from rfl,show strOf (fld (.agg [.int .i64 k1,.str s1,.int .i64 n1,a1,.int .i64 p1]) 1)=s1 from rfl,show intOf (fld (.agg [.int .i64 k1,.str s1,.int .i64 n1,a1,.int .i64 p1]) 2)=n1 from rfl]
  cases h1:k1==1 with
  |true=>
   rw[h1,cond_true] at hQ
   rw[hnone (.inl h1)] at loop
   rw[Br_true]
   exact penPut hp rfl (by simp) (by simp[catD,strOf]) λg1 k1=>⟨trivial,loop g1 _ k1 λg' h'=>hQ g' (by simpa[catD,strOf,tPs] using h')⟩
  |false=>
   rw[h1,cond_false] at hQ
   rw[Br_false]
   cases h2:k1==3 with
   |true=>
    rw[h2,cond_true] at hQ
    rw[hnone (.inr h2)] at loop
    rw[Br_true]
    exact r11Int_sh (hin h2) λhl=>⟨_,leLe (by omega),rfl,penPut hp rfl (by simp) (by simp[catD,strOf];omega) λg1 k1=>⟨trivial,loop g1 _ k1 λg' h'=>hQ g' (by simpa[catD,strOf,tPs] using h')⟩⟩
   |false=>
    rw[h2,cond_false] at hQ
    rw[Br_false]
    exact penPut hp rfl (by simp) (by simp[catD,strOf];omega) λg1 k1=>⟨trivial,loop g1 _ k1 λg' h'=>hQ g' (by simpa[catD,strOf,tPs] using h')⟩
end Go.Proofs.YtmlghadphdpbjaaGreatDoor.Pa
namespace Go.Proofs.YtmlghadphdpbjaaGreatDoor.Pa
open Go Go.Proofs.YtmlghadphdpbjaaGreatDoor.Am
def ExPn(k:Nat):Prop:=∀(x:Dat) (g:Glob) (q:Nat) (full:Str) (Qf:OGP),SizeOf.sizeOf x<k→HasTy TT 25 x→okEx (absEx x)=true→Pn g q full→
 (∀g',Pn g' q (full++tEx (absEx x))→Qf (.val (.tuple [])) g')→EvF TT 31 [.ptr (some (q,0)),x] g Qf
theorem tBr_end:∀(hd:Str) (b:List Pt) (l:List Ex'),∃F,tBr hd b l=F++[32,101,110,100]
 |hd,b,[]=>⟨[],by cases b<;>rfl⟩
 |hd,[],x::l=>⟨[],rfl⟩
 |hd,q::b,x::l=>by
  obtain⟨F,h⟩:=tBr_end tBarS b l
  exact⟨hd++(tPt q++(sTo++(brk (branchK (kEx x)) (tEx x)++F))),by rw[tBr,h];simp only[List.append_assoc]⟩
section
variable{g:Glob}{q k:Nat}{full:Str}{Qf:OGP}{x y z:Dat}
theorem withinP(ih:ExPn k)(h:Sub k x)(hp:Pn g q full)(hQ:∀g',Pn g' q (full++brk true (tEx (absEx x)))→Qf (.val (.tuple [])) g'):EvF TT 109 [.ptr (some (q,0)),x] g Qf:=by
 refine w109 h.ty (penPut hp rfl (by simp) (by simp[catD,strOf]) λg1 h1=>⟨trivial,?_⟩)
 refine ih x g1 q _ _ h.lt h.ty h.ok h1 λg2 h2=>⟨trivial,penPut h2 rfl (by simp) (by simp[catD,strOf]) λg3 h3=>⟨trivial,hQ g3 ?_⟩⟩
 simpa[catD,strOf,brk_t] using h3
theorem atomP(ih:ExPn k)(h:Sub k x)(hp:Pn g q full)(hQ:∀g',Pn g' q (full++brk (!(atomK (absEx x))) (tEx (absEx x)))→Qf (.val (.tuple [])) g'):EvF TT 67 [.ptr (some (q,0)),x] g Qf:=by
 refine w67 h.ty ?_
 rw[h.kind.1,h.kind.2]
 have goP:atomK (absEx x)=true→EvF TT 31 [.ptr (some (q,0)),x] g (KQ Qf λv g'=>RetT v []∧Qf (Out.val (Val.tuple [])) g'):=λhc=>by
  rw[hc] at hQ
  exact ih x g q _ _ h.lt h.ty h.ok hp λg' h'=>⟨trivial,hQ g' h'⟩
 have goB:atomK (absEx x)=false→EvF TT 109 [.ptr (some (q,0)),x] g (KQ Qf λv g'=>RetT v []∧Qf (Out.val (Val.tuple [])) g'):=λhc=>by
  rw[hc] at hQ
  exact withinP ih h hp λg' h'=>⟨trivial,hQ g' h'⟩
 unfold atomK at goP goB
 refine Br_iff.2 ⟨λh1=>goP (by rw[h1];rfl),λh1=>Br_iff.2 ⟨λh2=>goP (by rw[h1,h2];rfl),λh2=>Br_iff.2 ⟨λh3=>Br_iff.2 ⟨λh4=>goP (by rw[h1,h2,h3,h4];rfl),λh4=>goB (by rw[h1,h2,h3,h4];rfl)⟩,λh3=>goB (by rw[h1,h2,h3];rfl)⟩⟩⟩
theorem headP(ih:ExPn k)(h:Sub k x)(hp:Pn g q full)(hQ:∀g',Pn g' q (full++brk (!(kEx (absEx x)==4)&&(kEx (absEx x)==8||!(atomK (absEx x)))) (tEx (absEx x)))→Qf (.val (.tuple [])) g'):EvF TT 66 [.ptr (some (q,0)),x] g Qf:=by
 refine w66 h.ty ?_
 rw[h.kind.1]
 refine Br_iff.2 ⟨λh1=>ih x g q _ _ h.lt h.ty h.ok hp λg' h'=>⟨trivial,hQ g' ?_⟩,λh1=>Br_iff.2 ⟨λh2=>withinP ih h hp λg' h'=>⟨trivial,hQ g' ?_⟩,λh2=>atomP ih h hp λg' h'=>⟨trivial,hQ g' ?_⟩⟩⟩
 ·rw[h1];exact h'
 ·rw[h1,h2];exact h'
 ·rw[h1,h2];exact h'
theorem branchP(ih:ExPn k)(h:Sub k x)(hp:Pn g q full)(hQ:∀g',Pn g' q (full++brk (branchK (kEx (absEx x))) (tEx (absEx x)))→Qf (.val (.tuple [])) g'):EvF TT 69 [.ptr (some (q,0)),x] g Qf:=by
 refine w69 h.ty ?_
 rw[h.kind.1]
 have goP:branchK (kEx (absEx x))=false→EvF TT 31 [.ptr (some (q,0)),x] g (KQ Qf λv g'=>RetT v []∧Qf (Out.val (Val.tuple [])) g'):=λhc=>by
  rw[hc] at hQ
  exact ih x g q _ _ h.lt h.ty h.ok hp λg' h'=>⟨trivial,hQ g' h'⟩
 have goB:branchK (kEx (absEx x))=true→EvF TT 109 [.ptr (some (q,0)),x] g (KQ Qf λv g'=>RetT v []∧Qf (Out.val (Val.tuple [])) g'):=λhc=>by
  rw[hc] at hQ
  exact withinP ih h hp λg' h'=>⟨trivial,hQ g' h'⟩
 unfold branchK at goP goB
 refine Br_iff.2 ⟨λh1=>goB (by rw[h1];rfl),λh1=>Br_iff.2 ⟨λh2=>goB (by rw[h1,h2];rfl),λh2=>Br_iff.2 ⟨λh3=>goB (by rw[h1,h2,h3];rfl),λh3=>goP (by rw[h1,h2,h3];rfl)⟩⟩⟩
theorem casesP{X:Dat}{l lb:List Dat}(ih:ExPn k)(e:elsOf (fld X 4)=y::l)(eb:elsOf (fld X 5)=lb)(hn:l.length=lb.length)(hs:∀z∈l,Sub k z)(hpt:∀z∈lb,HasTy TT 94 z∧okPt (absPt z)=true)(hm:lb.length≤2^40)
 (hQ:∀g',Pn g' q (full++tBr [] (lb.map absPt) (l.map absEx))→Qf (.val (.tuple [])) g') (hp:Pn g q full):L31_31 q 0 X g Qf:=by
 have fin:∀g1 f1,Pn g1 q f1→(∀g',Pn g' q (f1++[32,101,110,100])→Qf (.val (.tuple [])) g')→EvF TT 44 [.ptr (some (q,0)),.sl 1 [.str [32,101,110,100]]] g1 (KQ Qf λv g'=>RetT v []∧Qf (Out.val (Val.tuple [])) g'):=λg1 f1 h1 hQ=>
  penPut h1 rfl (by simp) (by simp[catD,strOf]) λg2 h2=>⟨trivial,hQ g2 (by simpa[catD,strOf] using h2)⟩
 refine loopUp (len:=lb.length) (λi=>∀g1 f1,Pn g1 q f1→f1++tBr (bif i==0 then[] else tBarS) ((lb.drop i).map absPt) ((l.drop i).map absEx)=full++tBr [] (lb.map absPt) (l.map absEx)→L31_31 q (i:Int) X g1 Qf) ?_ ?_ 0 (Nat.zero_le _) g full hp rfl
 ·intro g1 f1 h1 h2
  refine w31_31 ?_
  rw[eb,Br_ge]
  have hz:l.drop lb.length=[]:=by rw[←hn,List.drop_length]
  have ht:∀hd,tBr hd ((lb.drop lb.length).map absPt) ((l.drop lb.length).map absEx)=[32,101,110,100]:=λhd=>by rw[hz];cases (lb.drop lb.length).map absPt<;>rfl
  rw[ht] at h2
  exact fin g1 f1 h1 λg' h'=>hQ g' (h2▸h')
 ·intro i hi ihl g1 f1 h1 h2
  have hi2:i<l.length:=by omega
  refine w31_31 ?_
  have hw1:IntKind.i64.wrap ((i:Int)+1)=((i+1:Nat):Int):=wrap_nat (by omega)
  have hge:getE (elsOf (fld X 4)) (((i+1:Nat):Int))=l[i]:=by
   rw[e]
   exact(getE_nat (xs:=y::l) (i:=i+1) (by simp;omega)).trans rfl
  have inb2:InB (((i+1:Nat):Int)) (elsOf (fld X 4)).length:=inB (by rw[e];simp;omega)
  have hsub:=hs _ (List.getElem_mem hi2)
  obtain⟨pty,pok⟩:=hpt _ (List.getElem_mem hi)
  rw[eb,Br_lt hi,getE_nat hi,hw1,hge]
  have h2':=h2
  rw[drop_map_cons hi,drop_map_cons hi2,tBr] at h2
  generalize l[i]=u at*
  generalize lb[i]=p at*
  have rest:∀g2,Pn g2 q (f1++(bif i==0 then[] else tBarS))→EvF TT 68 [Dat.ptr (some (q,0)),p] g2 (KQ Qf λv g'=>RetT v []∧EvF TT 44 [Dat.ptr (some (q,0)),Dat.sl 1 [Dat.str [32,45,62,32]]] g' (KQ Qf λv g'=>RetT v []∧InB (((i+1:Nat):Int)) (elsOf (fld X 4)).length∧EvF TT 69 [Dat.ptr (some (q,0)),u] g' (KQ Qf λv g'=>RetT v []∧L31_31 q (((i+1:Nat):Int)) X g' Qf))):=λg2 k2=>by
   refine patP _ p g2 q _ _ (Nat.lt_succ_self _) pty pok k2 λg3 h3=>⟨trivial,penPut h3 rfl (by simp) (by simp[catD,strOf]) λg4 h4=>⟨trivial,inb2,branchP ih hsub h4 λg5 h5=>⟨trivial,ihl g5 _ h5 ?_⟩⟩⟩
   rw[←h2]
   simp[catD,strOf,sTo]
  refine h1.small (λh1=>Br_iff.2 ⟨λhc=>?_,λhc=>?_⟩) λh=>?_
  ·have hc:(i==0)=false:=by have:=of_decide_eq_true hc;simp;omega
   rw[hc] at rest
   exact penPut h1 rfl (by simp) (by simp[catD,strOf]) λg2 k2=>⟨trivial,inB hi,rest g2 (by simpa[catD,strOf,tBarS] using k2)⟩
  ·have hc:(i==0)=true:=by have:=of_decide_eq_false hc;simp;omega
   rw[hc] at rest
   exact⟨inB hi,rest g1 (by simpa using h1)⟩
  ·obtain⟨F,hF⟩:=tBr_end (bif i==0 then[] else tBarS) ((lb.drop i).map absPt) ((l.drop i).map absEx)
   rw[hF] at h2'
   exact fin g1 _ (h F) λg' h'=>hQ g' (by rw[←h2',←List.append_assoc];exact h')
end
theorem exprP:∀k,ExPn k
 |0=>λx _ _ _ _ hk=>by omega
 |k+1=>λx g q full Qf hk hx ho hp hQ=>by
  have ih:=exprP k
  refine w31 hx (hp.great (λh=>hQ _ (h _)) ?_)
  obtain⟨k1,s1,r1,n1,a1,b1,p1,rfl,hs1,hr1,t1,u1⟩:=expr_ty hx
  have hc:=sizeOf_cell (cs:=[.int .i64 k1,.str s1,.str r1,.int .i64 n1,a1,b1,.int .i64 p1]) (c:=a1) (by simp)
  have ex:=t1.els undExprs
  have exl:=ex.1.1
  have eu:=u1.els undPats
  have hf4:fld (.agg [.int .i64 k1,.str s1,.str r1,.int .i64 n1,a1,b1,.int .i64 p1]) 4=a1:=rfl
  have hf5:fld (.agg [.int .i64 k1,.str s1,.str r1,.int .i64 n1,a1,b1,.int .i64 p1]) 5=b1:=rfl
  rw[show absEx (.agg [.int .i64 k1,.str s1,.str r1,.int .i64 n1,a1,b1,.int .i64 p1])=.mk k1 s1 r1 n1 (absExA a1) (absPtA b1) p1 from rfl,absExA_map,absPtA_map] at ho hQ
  rw[okEx,Bool.and_eq_true,Bool.and_eq_true,List.length_map,List.length_map] at ho
  obtain⟨ho1,ho2,ho3⟩:=ho
  have hsub:∀y∈elsOf a1,Sub k y:=λy hy=>⟨by have:=els_lt rfl hy;omega,ex.2 y hy,okExs_get ho3 _ (List.mem_map.2 ⟨y,hy,rfl⟩)⟩
  have hpt:∀y∈elsOf b1,HasTy TT 94 y∧okPt (absPt y)=true:=λy hy=>⟨eu.2 y hy,okPts_get ho2 _ (List.mem_map.2 ⟨y,hy,rfl⟩)⟩
  obtain⟨ls,lr,hin⟩:=okEx1_len ho1
  have ho1':(bif k1==1 then wLow s1&&(((elsOf a1).length:Int)==0) else bif k1==2 then(s1==[])&&(inI n1&&(((elsOf a1).length:Int)==0)) else bif k1==3 then wLow s1&&(((elsOf a1).length:Int)==1) else bif k1==4 then(s1==[])&&(((elsOf a1).length:Int)==2)
   else bif k1==5 then wLow s1&&(((elsOf a1).length:Int)==2) else bif k1==6 then wLow s1&&(wLow r1&&(((elsOf a1).length:Int)==2)) else bif k1==7 then(s1==[])&&(pos0 ((elsOf b1).length:Int)&&(((elsOf a1).length:Int)==((elsOf b1).length:Int)+1)) else bif k1==8 then wUp s1
   else bif k1==9 then pos0 (opN s1)&&(((elsOf a1).length:Int)==2) else bif k1==10 then(s1==[])&&(((elsOf a1).length:Int)==1) else false)=true:=by
   unfold okEx1 at ho1
   cases hz:((!(k1==6)&&!(r1==[]))||((!(k1==2)&&!(n1==0))||(!(k1==7)&&pos0 ((elsOf b1).length:Int)))) with
   |true=>rw[hz] at ho1;cases ho1
   |false=>rw[hz] at ho1;exact ho1
  clear ho1
  have hs:strOf (fld (.agg [.int .i64 k1,.str s1,.str r1,.int .i64 n1,a1,b1,.int .i64 p1]) 1)=s1:=rfl
  have hr:strOf (fld (.agg [.int .i64 k1,.str s1,.str r1,.int .i64 n1,a1,b1,.int .i64 p1]) 2)=r1:=rfl
  have hn:intOf (fld (.agg [.int .i64 k1,.str s1,.str r1,.int .i64 n1,a1,b1,.int .i64 p1]) 3)=n1:=rfl
  have hk1:intOf (fld (.agg [.int .i64 k1,.str s1,.str r1,.int .i64 n1,a1,b1,.int .i64 p1]) 0)=k1:=rfl
  generalize Dat.agg [.int .i64 k1,.str s1,.str r1,.int .i64 n1,a1,b1,.int .i64 p1]=X at*
  rw[hs,hr,hn,hk1,hf4]
  rw[tEx] at hQ
  cases h1:k1==1 with
  |true=>
   rw[h1,cond_true] at hQ
   rw[Br_true]
   exact penPut hp rfl (by simp) (by simp[catD,strOf];omega) λg1 k1=>⟨trivial,hQ g1 (by simpa[catD,strOf] using k1)⟩
  |false=>
  rw[h1,cond_false] at hQ ho1'
  rw[Br_false]
  cases h2:k1==2 with
  |true=>
   rw[h2,cond_true] at hQ
   rw[Br_true]
   exact r11Int_sh (hin h2) λhl=>⟨_,leLe (by omega),rfl,penPut hp rfl (by simp) (by simp[catD,strOf];omega) λg1 k1=>⟨trivial,hQ g1 (by simpa[catD,strOf] using k1)⟩⟩
  |false=>
  rw[h2,cond_false] at hQ ho1'
  rw[Br_false]
  cases h3:k1==3 with
  |true=>
   rw[h3,cond_true] at hQ ho1'
   rw[Br_true]
   obtain⟨y,e⟩:=one_of (Bool.and_eq_true _ _▸ho1').2
   have hy:=hsub y (by rw[e];simp)
   rw[e] at hQ⊢
   rw[show getE [y] 0=y from rfl]
   rw[List.map_cons,List.map_nil,tE0] at hQ
   refine penPut hp rfl (by simp) (by simp[catD,strOf];omega) λg1 hg1=>⟨trivial,inB (i:=0) (by simp),ih y g1 q _ _ hy.lt hy.ty hy.ok hg1 λg2 hg2=>⟨trivial,hQ g2 ?_⟩⟩
   simpa[catD,strOf,sTo] using hg2
  |false=>
  rw[h3,cond_false] at hQ ho1'
  rw[Br_false]
  cases h4:k1==4 with
  |true=>
   rw[h4,cond_true] at hQ ho1'
   rw[Br_true]
   obtain⟨y,z,e⟩:=two_of (Bool.and_eq_true _ _▸ho1').2
   have hy:=hsub y (by rw[e];simp)
   have hz:=hsub z (by rw[e];simp)
   rw[e] at hQ⊢
   rw[show getE [y,z] 0=y from rfl,show getE [y,z] 1=z from rfl]
   rw[List.map_cons,List.map_cons,List.map_nil,tH0,tA0] at hQ
   refine⟨inB (i:=0) (by simp),headP ih hy hp λg1 hg1=>⟨trivial,penPut hg1 rfl (by simp) (by simp[catD,strOf]) λg2 hg2=>⟨trivial,inB (i:=1) (by simp),atomP ih hz hg2 λg3 hg3=>⟨trivial,hQ g3 ?_⟩⟩⟩⟩
   simpa[catD,strOf] using hg3
  |false=>
  rw[h4,cond_false] at hQ ho1'
  rw[Br_false]
  cases h5:k1==5 with
  |true=>
   rw[h5,cond_true] at hQ ho1'
   rw[Br_true,Br_true]
   obtain⟨y,z,e⟩:=two_of (Bool.and_eq_true _ _▸ho1').2
   have hy:=hsub y (by rw[e];simp)
   have hz:=hsub z (by rw[e];simp)
   have h6:(k1==6)=false:=by rw[eq_of_beq h5];rfl
   rw[e] at hQ⊢
   rw[show getE [y,z] 0=y from rfl,show getE [y,z] 1=z from rfl]
   rw[List.map_cons,List.map_cons,List.map_nil,tIn,tE0] at hQ
   rw[h6]
   refine penPut hp rfl (by simp) (by simp[catD,strOf]) λg1 hg1=>⟨trivial,?_⟩
   rw[Br_false]
   refine penPut hg1 rfl (by simp) (by simp[catD,strOf];omega) λg2 hg2=>⟨trivial,?_⟩
   rw[Br_false]
   refine penPut hg2 rfl (by simp) (by simp[catD,strOf]) λg3 hg3=>⟨trivial,inB (i:=0) (by simp),ih y g3 q _ _ hy.lt hy.ty hy.ok hg3 λg4 hg4=>⟨trivial,penPut hg4 rfl (by simp) (by simp[catD,strOf]) λg5 hg5=>⟨trivial,inB (i:=1) (by simp),ih z g5 q _ _ hz.lt hz.ty hz.ok hg5 λg6 hg6=>⟨trivial,hQ g6 ?_⟩⟩⟩⟩
   simpa[catD,strOf,tEqS] using hg6
  |false=>
  rw[h5,cond_false] at hQ ho1'
  rw[Br_false]
  cases h6:k1==6 with
  |true=>
   rw[h6,cond_true] at hQ ho1'
   rw[Br_true]
   obtain⟨y,z,e⟩:=two_of (Bool.and_eq_true _ _▸(Bool.and_eq_true _ _▸ho1').2).2
   have hy:=hsub y (by rw[e];simp)
   have hz:=hsub z (by rw[e];simp)
   rw[e] at hQ⊢
   rw[show getE [y,z] 0=y from rfl,show getE [y,z] 1=z from rfl]
   rw[List.map_cons,List.map_cons,List.map_nil,tIn,tE0] at hQ
   refine penPut hp rfl (by simp) (by simp[catD,strOf]) λg1 hg1=>⟨trivial,?_⟩
   rw[Br_true]
   refine penPut hg1 rfl (by simp) (by simp[catD,strOf]) λg1 hg1=>⟨trivial,?_⟩
   refine penPut hg1 rfl (by simp) (by simp[catD,strOf];omega) λg2 hg2=>⟨trivial,?_⟩
   rw[Br_true]
   refine penPut hg2 rfl (by simp) (by simp[catD,strOf];omega) λg2 hg2=>⟨trivial,?_⟩
   refine penPut hg2 rfl (by simp) (by simp[catD,strOf]) λg3 hg3=>⟨trivial,inB (i:=0) (by simp),ih y g3 q _ _ hy.lt hy.ty hy.ok hg3 λg4 hg4=>⟨trivial,penPut hg4 rfl (by simp) (by simp[catD,strOf]) λg5 hg5=>⟨trivial,inB (i:=1) (by simp),ih z g5 q _ _ hz.lt hz.ty hz.ok hg5 λg6 hg6=>⟨trivial,hQ g6 ?_⟩⟩⟩⟩
   simpa[catD,strOf,tEqS] using hg6
  |false=>
  rw[h6,cond_false] at hQ ho1'
  rw[Br_false]
  cases h7:k1==7 with
  |true=>
   rw[h7,cond_true] at hQ ho1'
   rw[Br_true]
   have ho2':=(Bool.and_eq_true _ _▸ho1').2
   have hb0:=pos0_of (Bool.and_eq_true _ _▸ho2').1
   have hb1:=eq_of_beq (Bool.and_eq_true _ _▸ho2').2
   obtain⟨y,l,e⟩:∃y l,elsOf a1=y::l:=by
    cases h:elsOf a1 with
    |nil=>rw[h] at hb1;simp at hb1;omega
    |cons y l=>exact⟨y,l,rfl⟩
   rw[e] at hQ hb1 hsub
   have hy:=hsub y (by simp)
   rw[List.map_cons,tCa] at hQ
   obtain⟨p,lb,eb⟩:∃p lb,elsOf b1=p::lb:=by
    cases h:elsOf b1 with
    |nil=>rw[h] at hb0;simp at hb0
    |cons y l=>exact⟨y,l,rfl⟩
   have e0:getE (elsOf a1) 0=y:=by rw[e];rfl
   have i0:InB 0 (elsOf a1).length:=by rw[e];exact inB (i:=0) (by simp)
   rw[e0]
   refine penPut hp rfl (by simp) (by simp[catD,strOf]) λg1 hg1=>⟨trivial,i0,ih y g1 q _ _ hy.lt hy.ty hy.ok hg1 λg2 hg2=>⟨trivial,penPut hg2 rfl (by simp) (by simp[catD,strOf]) λg3 hg3=>⟨trivial,?_⟩⟩⟩
   refine casesP (l:=l) (lb:=elsOf b1) ih (by rw[hf4];exact e) (by rw[hf5]) (by simp at hb1;omega) (λz hz=>hsub z (List.mem_cons_of_mem _ hz)) hpt eu.1.1 (λg4 hg4=>hQ g4 ?_) hg3
   obtain⟨z,l',el⟩:∃z l',l=z::l':=by
    cases l with
    |nil=>simp at hb1;omega
    |cons z l'=>exact⟨z,l',rfl⟩
   rw[eb,el] at hg4⊢
   simpa[catD,strOf,tBr] using hg4
  |false=>
  rw[h7,cond_false] at hQ ho1'
  rw[Br_false]
  cases h8:k1==8 with
  |true=>
   rw[h8,cond_true] at hQ ho1'
   rw[Br_true]
   refine penPut hp rfl (by simp) (by simp[catD,strOf];omega) λg1 hg1=>⟨trivial,?_⟩
   refine loopUp (len:=(elsOf a1).length) (λi=>∀g1 b1,Pn g1 q b1→b1++tAs (((elsOf a1).drop i).map absEx)=full++(s1++tAs ((elsOf a1).map absEx))→L31_42 q (i:Int) X g1 Qf) ?_ ?_ 0 (Nat.zero_le _) g1 _ hg1 (by simp[catD,strOf])
   ·intro g1 b1 h1 h2
    refine w31_42 ?_
    rw[hf4,Br_ge]
    rw[List.drop_length,List.map_nil,tAs,List.append_nil] at h2
    exact hQ _ (h2▸h1)
   ·intro i hi ih2 g1 b1 h1 h2
    refine w31_42 ?_
    rw[hf4,Br_lt hi,getE_nat hi]
    rw[drop_map_cons hi,tAs] at h2
    refine penPut h1 rfl (by simp) (by simp[catD,strOf]) λg2 k2=>⟨trivial,inB hi,atomP ih (hsub _ (List.getElem_mem hi)) k2 λg3 h3=>⟨trivial,?_⟩⟩
    rw[wrap_nat (by omega)]
    exact ih2 _ _ h3 (by rw[←h2];simp[catD,strOf])
  |false=>
  rw[h8,cond_false] at hQ ho1'
  rw[Br_false]
  cases h9:k1==9 with
  |true=>
   rw[h9,cond_true] at hQ ho1'
   rw[Br_true]
   obtain⟨y,z,e⟩:=two_of (Bool.and_eq_true _ _▸ho1').2
   have hy:=hsub y (by rw[e];simp)
   have hz:=hsub z (by rw[e];simp)
   rw[e] at hQ⊢
   rw[show getE [y,z] 0=y from rfl,show getE [y,z] 1=z from rfl]
   rw[List.map_cons,List.map_cons,List.map_nil,tPr,tA0] at hQ
   refine⟨inB (i:=0) (by simp),atomP ih hy hp λg1 hg1=>⟨trivial,penPut hg1 rfl (by simp) (by simp[catD,strOf];omega) λg2 hg2=>⟨trivial,inB (i:=1) (by simp),atomP ih hz hg2 λg3 hg3=>⟨trivial,hQ g3 ?_⟩⟩⟩⟩
   simpa[catD,strOf] using hg3
  |false=>
  rw[h9,cond_false] at hQ ho1'
  rw[Br_false]
  cases h10:k1==10 with
  |true=>
   rw[h10,cond_true] at hQ ho1'
   rw[Br_true]
   obtain⟨y,e⟩:=one_of (Bool.and_eq_true _ _▸ho1').2
   have hy:=hsub y (by rw[e];simp)
   rw[e] at hQ⊢
   rw[show getE [y] 0=y from rfl]
   rw[List.map_cons,List.map_nil,tA0] at hQ
   refine penPut hp rfl (by simp) (by simp[catD,strOf]) λg1 hg1=>⟨trivial,inB (i:=0) (by simp),atomP ih hy hg1 λg2 hg2=>⟨trivial,hQ g2 ?_⟩⟩
   simpa[catD,strOf] using hg2
  |false=>
   rw[h10] at ho1'
   cases ho1'
end Go.Proofs.YtmlghadphdpbjaaGreatDoor.Pa
