/- Useful: a Field's type, values and patterns of a type, walked. Useful: which rows are idle. -/
import Derived.Test.YtiheejdkkjfenaaGreatDoorSK
set_option linter.all false
set_option autoImplicit false
set_option maxRecDepth 100000
namespace Go.Proofs.YtiheejdkkjfenaaGreatDoor.Pa
open Go Go.Proofs.YtiheejdkkjfenaaGreatDoor.Am
end Go.Proofs.YtiheejdkkjfenaaGreatDoor.Pa
namespace Go.Proofs.YtiheejdkkjfenaaGreatDoor.Pa
open Go Go.Proofs.YtiheejdkkjfenaaGreatDoor.Am
theorem mayB_one{D:List Dc}{ps:List Pt}{rows:List (List Pt)}{p:Pt}(h:mayB D (colOf ps) 1=true)(hr:∀r∈rows,∃q∈ps,r=[q])(hp:p∈ps):InvU D 2097152 rows [p]:=by
 simp only[mayB,Bool.and_eq_true,List.all_eq_true,beq_iff_eq] at h
 obtain⟨_,_,h3⟩:=h
 have ok:∀q∈ps,okP D q=true:=λq hq=>fitB_ok D 1 q (h3 [q] (List.mem_map.2 ⟨q,hq,rfl⟩) q (by simp))
 refine⟨λr hr'=>?_,by simp,λx hx=>?_,λr hr' x hx=>?_⟩
 ·obtain⟨q,_,rfl⟩:=hr r hr';rfl
 ·simp only[List.mem_singleton] at hx;subst hx;exact ok _ hp
 ·obtain⟨q,hq,rfl⟩:=hr r hr';simp only[List.mem_singleton] at hx;subst hx;exact ok _ hq
def idleF(D:List Dc)(ps:List Pt):Nat→List Nat→List Pt→List Nat×Int
 |_,out,[]=>(out,0)
 |i,out,p::l=>bif (askedF D (colOf (ps.take i)) [p]).2==0 then idleF D ps (i+1) (bif (askedF D (colOf (ps.take i)) [p]).1 then out else out++[i]) l else([],(askedF D (colOf (ps.take i)) [p]).2)
def idleD(D:List Dc)(ps:List Pt):List Nat×Int:=bif mayB D (colOf ps) 1 then idleF D ps 0 [] ps else([],1)
def natD(l:List Nat):List Dat:=l.map λ(i:Nat)=>Dat.int .i64 (i:Int)
theorem fitRows(n:Nat)(h:n≤2^31):SlFit TT 24 n:=⟨by omega,λb' hb'=>by rw[byRow] at hb';cases hb';omega⟩
theorem sub_rows{X:Dat}(tX:HasTy TT 86 X){i:Nat}(hi:i≤(elsOf X).length)(hb:(elsOf X).length≤2^30):HasTy TT 86 (slSub 1 X (elsOf X) 0 (i:Int))∧rowsAbs (slSub 1 X (elsOf X) 0 (i:Int))=(rowsAbs X).take i:=by
 unfold slSub
 split
 ·rename_i h
  obtain rfl:i=(elsOf X).length:=by omega
  refine⟨tX,?_⟩
  rw[List.take_of_length_le (by rw[rowsAbs,List.length_map];exact Nat.le_refl _)]
 ·have e:((elsOf X).take (i:Int).toNat).drop (0:Int).toNat=(elsOf X).take i:=by rw[Int.toNat_natCast];rfl
  rw[e]
  refine⟨.sl _ _ _ _ undRows szRow (fitRows _ (by rw[List.length_take];omega)) λy hy=>(tX.els undRows).2 y (List.mem_of_mem_take hy),?_⟩
  show((elsOf X).take i).map rowAbs=((elsOf X).map rowAbs).take i
  rw[List.map_take]
theorem colTake(ps:List Pt)(i:Nat):(colOf ps).take i=colOf (ps.take i):=by unfold colOf;rw[List.map_take]
theorem idle_ok{l x:Dat}{g:Glob}(hl:HasTy TT 22 l)(hF:FewF (DD l) 2097152)(tx:HasTy TT 24 x)(hnl:(elsOf x).length≤2^30)(Qf:OGP)
 (hQ:∀g' us,Kp [] 0 g g'→RetL us [slOf 1 (natD (idleD (DD l) (rowAbs x)).1),.int .i64 (idleD (DD l) (rowAbs x)).2]→Qf (.val (.tuple us)) g'):EvF TT 19 [l,x] g Qf:=by
 refine w19 hl tx (column_ok tx _ λv X tX hv h0 hX=>⟨X,tX,hv,may_ok (cols:=1) hl tX _ λg1 k1=>⟨_,rfl,?_⟩⟩)
 have hX:rowsAbs X=colOf (rowAbs x):=hX
 have hXl:(elsOf X).length=(elsOf x).length:=by
  have:=congrArg List.length hX
  simpa[rowsAbs,rowAbs,colOf] using this
 have hxl:(rowAbs x).length=(elsOf x).length:=List.length_map _
 rw[hX]
 refine Br_iff.2 ⟨λq=>λus hu=>?_,λq=>?_⟩
 ·have q:mayB (DD l) (colOf (rowAbs x)) 1=false:=by simpa using q
  refine hQ g1 us k1 ?_
  unfold idleD
  rw[q]
  exact hu
 ·have q:mayB (DD l) (colOf (rowAbs x)) 1=true:=by simpa using q
  have hid:idleD (DD l) (rowAbs x)=idleF (DD l) (rowAbs x) 0 [] (rowAbs x):=by unfold idleD;rw[q];rfl
  rw[hid] at hQ
  refine loopUp (len:=(elsOf X).length) (λi=>∀(out:List Nat) (G:Glob),Kp [] 0 g G→out.length≤i→idleF (DD l) (rowAbs x) i out ((rowAbs x).drop i)=idleF (DD l) (rowAbs x) 0 [] (rowAbs x)→L19_6 l X (natD out) X ((elsOf X).length:Int) (i:Int) G Qf) ?_ ?_ 0 (Nat.zero_le _) [] g1 k1 (Nat.le_refl _) rfl
  ·intro out G k ho he
   refine w19_6 ?_
   rw[Br_ge]
   rw[hXl,←hxl,List.drop_length] at he
   intro us hu
   refine hQ G us k ?_
   rw[←he]
   exact hu
  ·intro i hi ih out G k ho he
   refine w19_6 ?_
   rw[Br_lt hi,getE_nat hi,wrap_nat (by omega)]
   have hix:i<(rowAbs x).length:=by omega
   have te:=(tX.els undRows).2 _ (List.getElem_mem hi)
   rw[fld_row te]
   have hrow:rowAbs (elsOf X)[i]=[(rowAbs x)[i]]:=by
    have e1:(rowsAbs X)[i]?=some (rowAbs (elsOf X)[i]):=by rw[rowsAbs,List.getElem?_map,List.getElem?_eq_getElem hi];rfl
    rw[hX,colOf,List.getElem?_map,List.getElem?_eq_getElem hix] at e1
    exact(Option.some.inj e1).symm
   obtain⟨ts,es⟩:=sub_rows tX (Nat.le_of_lt hi) (by omega)
   rw[hX,colTake] at es
   have hinv:InvU (DD l) 2097152 (colOf ((rowAbs x).take i)) [(rowAbs x)[i]]:=mayB_one q (λr hr=>by
    obtain⟨p,hp,rfl⟩:=List.mem_map.1 hr
    exact⟨p,List.mem_of_mem_take hp,rfl⟩) (List.getElem_mem hix)
   rw[List.drop_eq_getElem_cons hix,idleF] at he
   refine⟨inB hi,⟨Int.le_refl _,by omega,by omega⟩,asked_ok hl hF ts te (by rw[es,hrow];exact hinv) _ λG' k'=>⟨_,_,⟨rfl,rfl,trivial⟩,?_⟩⟩
   rw[es,hrow]
   obtain⟨A,hA⟩:∃A,A=askedF (DD l) (colOf ((rowAbs x).take i)) [(rowAbs x)[i]]:=⟨_,rfl⟩
   rw[←hA] at he⊢
   refine Br_iff.2 ⟨λq2 us hu=>?_,λq2=>?_⟩
   ·have q2:(A.2==0)=false:=by simpa[bne] using q2
    rw[q2,cond_false] at he
    refine hQ G' us (k.trans k') ?_
    rw[←he]
    exact hu
   ·have q2:(A.2==0)=true:=by simpa[bne] using q2
    rw[q2,cond_true] at he
    refine Br_iff.2 ⟨λq3=>⟨⟨by simp[natD];omega,by simp[natD];omega⟩,?_⟩,λq3=>?_⟩
    ·have q3:A.1=false:=by simpa using q3
     rw[q3,cond_false] at he
     have:=ih (out++[i]) G' (k.trans k') (by simp;omega) he
     unfold natD at this
     rw[List.map_append] at this
     exact this
    ·have q3:A.1=true:=by simpa using q3
     rw[q3,cond_true] at he
     exact ih out G' (k.trans k') (by omega) he
end Go.Proofs.YtiheejdkkjfenaaGreatDoor.Pa
