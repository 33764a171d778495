/- What functions of the program do, printed by wip/tools/sx/sx.py. How many expressions and patterns there are: the program's and the document's answers. What is not too large: not many nodes, not deep. A program that is not too large: its types are not. What functions of the program do, printed by wip/tools/sx/sx.py. How deep: the program's numbers, the document's tests. -/
import Derived.Test.YtiheejdkkjfenaaGreatDoorRD
set_option linter.all false
set_option autoImplicit false
set_option maxRecDepth 100000
namespace Go.Proofs.YtiheejdkkjfenaaGreatDoor.Pa
open Go Go.Proofs.YtiheejdkkjfenaaGreatDoor.Am
variable{x0 y2:Dat}{n1 n5 n6:Int}{g:Glob}{Qf:OGP}
def L207_3(n1 n5:Int)(y2:Dat)(g:Glob)(Qf:OGP):=LC 207 Tryz.f207 [1,1,0,1,0] Qf 2 [(1,iv n1),(2,.loc 2 0 0),(5,iv n5)] [(2,.whole 52 y2)] g
def lo207:List CuI:=[⟨3,[K 1,K 2,K 5],[(2,.whole 52)]⟩]
theorem w207(h0:Ha TT 52 x0)
 (h:L207_3 (IntKind.i64.wrap (n1-1)) 0 x0 g Qf):
 EvF TT 207 [x0,.int .i64 n1] g Qf:=
 sF Tryz.f207 lo207 [(52,x0),(3,.int .i64 n1)] ⟨h0,tyI rfl,trivial⟩ h
theorem w207_3
 (h:Br (decide (n5<((elO (fld y2 3)).length:Int))) (Br (decide (0≤n1)) (InB n5 (elO (fld y2 3)).length∧EvF TT 207 [gtE (elO (fld y2 3)) n5,.int .i64 n1] g (KQ Qf λv g'=>∃n,v=.d (.int .i64 n)∧L207_3 n (IntKind.i64.wrap (n5+1)) y2 g' Qf)) (Qf (.val (.d (.int .i64 n1))) g)) (Qf (.val (.d (.int .i64 n1))) g)):
 L207_3 n1 n5 y2 g Qf:=sC lo207 h
def L59_3(n1 n5:Int)(y2:Dat)(g:Glob)(Qf:OGP):=LC 59 Tryz.f59 [1,1,0,1,0] Qf 2 [(1,iv n1),(2,.loc 2 0 0),(5,iv n5)] [(2,.whole 52 y2)] g
def lo59:List CuI:=[⟨3,[K 1,K 2,K 5],[(2,.whole 52)]⟩]
theorem w59(h0:Ha TT 52 x0)
 (h:L59_3 (IntKind.i64.wrap (n1+1)) 0 x0 g Qf):
 EvF TT 59 [x0,.int .i64 n1] g Qf:=
 sF Tryz.f59 lo59 [(52,x0),(3,.int .i64 n1)] ⟨h0,tyI rfl,trivial⟩ h
theorem w59_3
 (h:Br (decide (n5<((elO (fld y2 3)).length:Int))) (Br (decide (n1≤2048)) (InB n5 (elO (fld y2 3)).length∧EvF TT 59 [gtE (elO (fld y2 3)) n5,.int .i64 n1] g (KQ Qf λv g'=>∃n,v=.d (.int .i64 n)∧L59_3 n (IntKind.i64.wrap (n5+1)) y2 g' Qf)) (Qf (.val (.d (.int .i64 n1))) g)) (Qf (.val (.d (.int .i64 n1))) g)):
 L59_3 n1 n5 y2 g Qf:=sC lo59 h
def L165_3(n1 n5:Int)(y2:Dat)(g:Glob)(Qf:OGP):=LC 165 Tryz.f165 [1,1,0,1,0] Qf 2 [(1,iv n1),(2,.loc 2 0 0),(5,iv n5)] [(2,.whole 26 y2)] g
def L165_7(n1 n6:Int)(y2:Dat)(g:Glob)(Qf:OGP):=LC 165 Tryz.f165 [1,1,1,0,1,0] Qf 2 [(1,iv n1),(2,.loc 2 0 0),(6,iv n6)] [(2,.whole 26 y2)] g
def lo165:List CuI:=[⟨3,[K 1,K 2,K 5],[(2,.whole 26)]⟩,⟨7,[K 1,K 2,K 6],[(2,.whole 26)]⟩]
theorem w165(h0:Ha TT 26 x0)
 (h:L165_3 (IntKind.i64.wrap (n1-1)) 0 x0 g Qf):
 EvF TT 165 [x0,.int .i64 n1] g Qf:=
 sF Tryz.f165 lo165 [(26,x0),(3,.int .i64 n1)] ⟨h0,tyI rfl,trivial⟩ h
theorem w165_3
 (h:Br (decide (n5<((elO (fld y2 5)).length:Int))) (Br (decide (0≤n1)) (InB n5 (elO (fld y2 5)).length∧EvF TT 207 [gtE (elO (fld y2 5)) n5,.int .i64 n1] g (KQ Qf λv g'=>∃n,v=.d (.int .i64 n)∧L165_3 n (IntKind.i64.wrap (n5+1)) y2 g' Qf)) (L165_7 n1 0 y2 g Qf)) (L165_7 n1 0 y2 g Qf)):
 L165_3 n1 n5 y2 g Qf:=sC lo165 h
theorem w165_7
 (h:Br (decide (n6<((elO (fld y2 4)).length:Int))) (Br (decide (0≤n1)) (InB n6 (elO (fld y2 4)).length∧EvF TT 165 [gtE (elO (fld y2 4)) n6,.int .i64 n1] g (KQ Qf λv g'=>∃n,v=.d (.int .i64 n)∧L165_7 n (IntKind.i64.wrap (n6+1)) y2 g' Qf)) (Qf (.val (.d (.int .i64 n1))) g)) (Qf (.val (.d (.int .i64 n1))) g)):
 L165_7 n1 n6 y2 g Qf:=sC lo165 h
def L32_3(n1 n5:Int)(y2:Dat)(g:Glob)(Qf:OGP):=LC 32 Tryz.f32 [1,1,0,1,0] Qf 2 [(1,iv n1),(2,.loc 2 0 0),(5,iv n5)] [(2,.whole 26 y2)] g
def L32_7(n1 n6:Int)(y2:Dat)(g:Glob)(Qf:OGP):=LC 32 Tryz.f32 [1,1,1,0,1,0] Qf 2 [(1,iv n1),(2,.loc 2 0 0),(6,iv n6)] [(2,.whole 26 y2)] g
def lo32:List CuI:=[⟨3,[K 1,K 2,K 5],[(2,.whole 26)]⟩,⟨7,[K 1,K 2,K 6],[(2,.whole 26)]⟩]
theorem w32(h0:Ha TT 26 x0)
 (h:L32_3 (IntKind.i64.wrap (n1+1)) 0 x0 g Qf):
 EvF TT 32 [x0,.int .i64 n1] g Qf:=
 sF Tryz.f32 lo32 [(26,x0),(3,.int .i64 n1)] ⟨h0,tyI rfl,trivial⟩ h
theorem w32_3
 (h:Br (decide (n5<((elO (fld y2 5)).length:Int))) (Br (decide (n1≤2048)) (InB n5 (elO (fld y2 5)).length∧EvF TT 59 [gtE (elO (fld y2 5)) n5,.int .i64 n1] g (KQ Qf λv g'=>∃n,v=.d (.int .i64 n)∧L32_3 n (IntKind.i64.wrap (n5+1)) y2 g' Qf)) (L32_7 n1 0 y2 g Qf)) (L32_7 n1 0 y2 g Qf)):
 L32_3 n1 n5 y2 g Qf:=sC lo32 h
theorem w32_7
 (h:Br (decide (n6<((elO (fld y2 4)).length:Int))) (Br (decide (n1≤2048)) (InB n6 (elO (fld y2 4)).length∧EvF TT 32 [gtE (elO (fld y2 4)) n6,.int .i64 n1] g (KQ Qf λv g'=>∃n,v=.d (.int .i64 n)∧L32_7 n (IntKind.i64.wrap (n6+1)) y2 g' Qf)) (Qf (.val (.d (.int .i64 n1))) g)) (Qf (.val (.d (.int .i64 n1))) g)):
 L32_7 n1 n6 y2 g Qf:=sC lo32 h
theorem w101(h0:Ha TT 28 x0)
 (h:EvF TT 165 [sub x0 1 7,.int .i64 2048] g (KQ Qf λv g'=>∃n,v=.d (.int .i64 n)∧Qf (.val (.d (.int .i64 (IntKind.i64.wrap (2048-maxS true (-1) n))))) g')):
 EvF TT 101 [x0] g Qf:=
 sF Tryz.f101 [] [(28,x0)] ⟨h0,trivial⟩ h
theorem w8(h0:Ha TT 28 x0)
 (h:EvF TT 32 [sub x0 1 7,.int .i64 0] g (KQ Qf λv g'=>∃n,v=.d (.int .i64 n)∧Qf (.val (.d (.int .i64 (maxS false n 2049)))) g')):
 EvF TT 8 [x0] g Qf:=
 sF Tryz.f8 [] [(28,x0)] ⟨h0,trivial⟩ h
end Go.Proofs.YtiheejdkkjfenaaGreatDoor.Pa
namespace Go.Proofs.YtiheejdkkjfenaaGreatDoor.Pa
open Go Go.Proofs.YtiheejdkkjfenaaGreatDoor.Am
mutual
def sPt:Pt→Nat
 |.mk _ _ _ a _=>1+szP a
def szP:List Pt→Nat
 |[]=>0
 |x::xs=>sPt x+szP xs
end
mutual
def szx:Ex'→Nat
 |.mk _ _ _ _ a b _=>1+szP b+szE a
def szE:List Ex'→Nat
 |[]=>0
 |x::xs=>szx x+szE xs
end
theorem szt{xs:List Dat}{i:Nat}(hi:i<xs.length):szP ((xs.drop i).map aP)=sPt (aP xs[i])+szP ((xs.drop (i+1)).map aP):=by
 rw[List.drop_eq_getElem_cons hi];rfl
theorem szd{xs:List Dat}{i:Nat}(hi:i<xs.length):szE ((xs.drop i).map ax)=szx (ax xs[i])+szE ((xs.drop (i+1)).map ax):=by
 rw[List.drop_eq_getElem_cons hi];rfl
def lft(n:Int)(s:Nat):Int:=if (s:Int)≤n then n-s else -1
theorem lfa(n:Int)(a b:Nat):lft n (a+b)=lft (lft n a) b:=by
 unfold lft
 repeat' split
 all_goals omega
theorem lfl{n:Int}(s:Nat)(h:n<0)(h1:-1≤n):lft n s=n:=by
 unfold lft;split<;>omega
theorem lg{n:Int}(s:Nat)(h:n≤2048):-1≤lft n s∧lft n s≤2048:=by
 unfold lft;split<;>omega
theorem pz:∀(k:Nat) (x:Dat) (g:Glob) (n1:Int),SizeOf.sizeOf x<k→Ha TT 52 x→0≤n1→n1≤2048→∀(Qf:OGP),Qf (.val (.d (.int .i64 (lft n1 (sPt (aP x)))))) g→EvF TT 207 [x,.int .i64 n1] g Qf
 |0,x,g,n1,hk,_,_,_=>by omega
 |k+1,x,g,n1,hk,hx,h0,h1=>by
  intro Qf hQ;refine w207 hx ?_;obtain⟨k1,s1,v1,a1,p1,rfl,hs1,t1⟩:=ptt hx;have ex:=t1.els uP;have exl:=ex.1.1;have hc:=sO (cs:=[.int .i64 k1,.str s1,.int .i64 v1,a1,.int .i64 p1]) (c:=a1) (by simp);rw[wrp (by omega) (by omega)];have hz:lft n1 (sPt (aP (.agg [.int .i64 k1,.str s1,.int .i64 v1,a1,.int .i64 p1])))=lft (n1-1) (szP (((elO a1).drop 0).map aP)):=by
   simp only[aP,sPt,abP,List.drop_zero];rw[lfa];congr 1;unfold lft;split<;>omega
  rw[hz] at hQ;refine lU (len:=(elO a1).length) (λi=>∀n:Int,-1≤n→n≤2048→Qf (.val (.d (.int .i64 (lft n (szP (((elO a1).drop i).map aP)))))) g→L207_3 n (i:Int) (.agg [.int .i64 k1,.str s1,.int .i64 v1,a1,.int .i64 p1]) g Qf) ?_ ?_ 0 (Nat.zero_le _) (n1-1) (by omega) (by omega) hQ
  ·intro n h0 h1 hQ;refine w207_3 ?_;rw[show(fld (Dat.agg [.int .i64 k1,.str s1,.int .i64 v1,a1,.int .i64 p1]) 3)=a1 from rfl,Bg];rw[List.drop_length,show lft n (szP (([]:List Dat).map aP))=n from by simp only[List.map_nil,szP,lft];split<;>omega] at hQ;exact hQ
  ·intro i hi ih n h0 h1 hQ;refine w207_3 ?_;rw[show(fld (Dat.agg [.int .i64 k1,.str s1,.int .i64 v1,a1,.int .i64 p1]) 3)=a1 from rfl,Bl hi,geE hi];refine Bi.2 ⟨λq=>⟨inB hi,?_⟩,λq=>?_⟩
   ·have hsz:=siz hi;refine pz k _ g _ (by omega) (ex.2 _ (List.getElem_mem hi)) (of_decide_eq_true q) h1 _ ⟨_,rfl,?_⟩;rw[wra (by omega)];refine ih _ (lg _ h1).1 (lg _ h1).2 ?_;rw[←lfa,←szt hi];exact hQ
   ·rw[lfl _ (by have:=of_decide_eq_false q;omega) h0] at hQ;exact hQ
theorem sid:∀(k:Nat) (x:Dat) (g:Glob) (n1:Int),SizeOf.sizeOf x<k→Ha TT 26 x→0≤n1→n1≤2048→∀(Qf:OGP),Qf (.val (.d (.int .i64 (lft n1 (szx (ax x)))))) g→EvF TT 165 [x,.int .i64 n1] g Qf
 |0,x,g,n1,hk,_,_,_=>by omega
 |k+1,x,g,n1,hk,hx,h0,h1=>by
  intro Qf hQ;refine w165 hx ?_;obtain⟨k1,s1,r1,v1,a1,b1,p1,rfl,hs1,hr1,t1,u1⟩:=exr hx;have ex:=t1.els unE;have exl:=ex.1.1;have eu:=u1.els uP;have eul:=eu.1.1;have hc:=sO (cs:=[.int .i64 k1,.str s1,.str r1,.int .i64 v1,a1,b1,.int .i64 p1]) (c:=a1) (by simp);rw[wrp (by omega) (by omega)];have hz:lft n1 (szx (ax (.agg [.int .i64 k1,.str s1,.str r1,.int .i64 v1,a1,b1,.int .i64 p1])))=lft (lft (n1-1) (szP (((elO b1).drop 0).map aP))) (szE (((elO a1).drop 0).map ax)):=by
   simp only[ax,szx,abP,abE,List.drop_zero];rw[lfa,lfa];congr 2;unfold lft;split<;>omega
  rw[hz] at hQ;have args:∀n:Int,-1≤n→n≤2048→Qf (.val (.d (.int .i64 (lft n (szE (((elO a1).drop 0).map ax)))))) g→L165_7 n 0 (.agg [.int .i64 k1,.str s1,.str r1,.int .i64 v1,a1,b1,.int .i64 p1]) g Qf:=by
   refine lU (len:=(elO a1).length) (λi=>∀n:Int,-1≤n→n≤2048→Qf (.val (.d (.int .i64 (lft n (szE (((elO a1).drop i).map ax)))))) g→L165_7 n (i:Int) (.agg [.int .i64 k1,.str s1,.str r1,.int .i64 v1,a1,b1,.int .i64 p1]) g Qf) ?_ ?_ 0 (Nat.zero_le _)
   ·intro n h0 h1 hQ;refine w165_7 ?_;rw[show(fld (Dat.agg [.int .i64 k1,.str s1,.str r1,.int .i64 v1,a1,b1,.int .i64 p1]) 4)=a1 from rfl,Bg];rw[List.drop_length,show lft n (szE (([]:List Dat).map ax))=n from by simp only[List.map_nil,szE,lft];split<;>omega] at hQ;exact hQ
   ·intro i hi ih n h0 h1 hQ;refine w165_7 ?_;rw[show(fld (Dat.agg [.int .i64 k1,.str s1,.str r1,.int .i64 v1,a1,b1,.int .i64 p1]) 4)=a1 from rfl,Bl hi,geE hi];refine Bi.2 ⟨λq=>⟨inB hi,?_⟩,λq=>?_⟩
    ·have hsz:=siz hi;refine sid k _ g _ (by omega) (ex.2 _ (List.getElem_mem hi)) (of_decide_eq_true q) h1 _ ⟨_,rfl,?_⟩;rw[wra (by omega)];refine ih _ (lg _ h1).1 (lg _ h1).2 ?_;rw[←lfa,←szd hi];exact hQ
    ·rw[lfl _ (by have:=of_decide_eq_false q;omega) h0] at hQ;exact hQ
  refine lU (len:=(elO b1).length) (λi=>∀n:Int,-1≤n→n≤2048→Qf (.val (.d (.int .i64 (lft (lft n (szP (((elO b1).drop i).map aP))) (szE (((elO a1).drop 0).map ax)))))) g→L165_3 n (i:Int) (.agg [.int .i64 k1,.str s1,.str r1,.int .i64 v1,a1,b1,.int .i64 p1]) g Qf) ?_ ?_ 0 (Nat.zero_le _) (n1-1) (by omega) (by omega) hQ
  ·intro n h0 h1 hQ;refine w165_3 ?_;rw[show(fld (Dat.agg [.int .i64 k1,.str s1,.str r1,.int .i64 v1,a1,b1,.int .i64 p1]) 5)=b1 from rfl,Bg];rw[List.drop_length,show lft n (szP (([]:List Dat).map aP))=n from by simp only[List.map_nil,szP,lft];split<;>omega] at hQ;exact args n h0 h1 hQ
  ·intro i hi ih n h0 h1 hQ;refine w165_3 ?_;rw[show(fld (Dat.agg [.int .i64 k1,.str s1,.str r1,.int .i64 v1,a1,b1,.int .i64 p1]) 5)=b1 from rfl,Bl hi,geE hi];refine Bi.2 ⟨λq=>⟨inB hi,?_⟩,λq=>?_⟩
   ·refine pz _ _ g _ (Nat.lt_succ_self _) (eu.2 _ (List.getElem_mem hi)) (of_decide_eq_true q) h1 _ ⟨_,rfl,?_⟩;rw[wra (by omega)];refine ih _ (lg _ h1).1 (lg _ h1).2 ?_;rw[←lfa n,←szt hi];exact hQ
   ·rw[lfl (szP (((elO b1).drop i).map aP)) (by have:=of_decide_eq_false q;omega) h0] at hQ;exact args n h0 h1 hQ
def upto(n:Int)(s:Nat):Int:=if n+s≤2048 then n+s else 2049
theorem upt(n:Int)(a b:Nat):upto n (a+b)=upto (upto n a) b:=by
 unfold upto
 repeat' split
 all_goals omega
theorem ug{n:Int}(s:Nat)(h:2048<n)(h1:n≤2049):upto n s=n:=by
 unfold upto;split<;>omega
theorem ut{n:Int}(s:Nat)(h:0≤n):0≤upto n s∧upto n s≤2049:=by
 unfold upto;split<;>omega
theorem siP:∀(k:Nat) (x:Dat) (g:Glob) (n1:Int),SizeOf.sizeOf x<k→Ha TT 52 x→0≤n1→n1≤2048→∀(Qf:OGP),Qf (.val (.d (.int .i64 (upto n1 (sPt (aP x)))))) g→EvF TT 59 [x,.int .i64 n1] g Qf
 |0,x,g,n1,hk,_,_,_=>by omega
 |k+1,x,g,n1,hk,hx,h0,h1=>by
  intro Qf hQ;refine w59 hx ?_;obtain⟨k1,s1,v1,a1,p1,rfl,hs1,t1⟩:=ptt hx;have ex:=t1.els uP;have exl:=ex.1.1;have hc:=sO (cs:=[.int .i64 k1,.str s1,.int .i64 v1,a1,.int .i64 p1]) (c:=a1) (by simp);rw[wrp (by omega) (by omega)];have hz:upto n1 (sPt (aP (.agg [.int .i64 k1,.str s1,.int .i64 v1,a1,.int .i64 p1])))=upto (n1+1) (szP (((elO a1).drop 0).map aP)):=by
   simp only[aP,sPt,abP,List.drop_zero];rw[upt];congr 1;unfold upto;split<;>omega
  rw[hz] at hQ;refine lU (len:=(elO a1).length) (λi=>∀n:Int,0≤n→n≤2049→Qf (.val (.d (.int .i64 (upto n (szP (((elO a1).drop i).map aP)))))) g→L59_3 n (i:Int) (.agg [.int .i64 k1,.str s1,.int .i64 v1,a1,.int .i64 p1]) g Qf) ?_ ?_ 0 (Nat.zero_le _) (n1+1) (by omega) (by omega) hQ
  ·intro n h0 h1 hQ;refine w59_3 ?_;rw[show(fld (Dat.agg [.int .i64 k1,.str s1,.int .i64 v1,a1,.int .i64 p1]) 3)=a1 from rfl,Bg];rw[List.drop_length,show upto n (szP (([]:List Dat).map aP))=n from by simp only[List.map_nil,szP,upto];split<;>omega] at hQ;exact hQ
  ·intro i hi ih n h0 h1 hQ;refine w59_3 ?_;rw[show(fld (Dat.agg [.int .i64 k1,.str s1,.int .i64 v1,a1,.int .i64 p1]) 3)=a1 from rfl,Bl hi,geE hi];refine Bi.2 ⟨λq=>⟨inB hi,?_⟩,λq=>?_⟩
   ·have hsz:=siz hi;refine siP k _ g _ (by omega) (ex.2 _ (List.getElem_mem hi)) h0 (of_decide_eq_true q) _ ⟨_,rfl,?_⟩;rw[wra (by omega)];refine ih _ (ut _ h0).1 (ut _ h0).2 ?_;rw[←upt,←szt hi];exact hQ
   ·rw[ug _ (by have:=of_decide_eq_false q;omega) h1] at hQ;exact hQ
theorem sir:∀(k:Nat) (x:Dat) (g:Glob) (n1:Int),SizeOf.sizeOf x<k→Ha TT 26 x→0≤n1→n1≤2048→∀(Qf:OGP),Qf (.val (.d (.int .i64 (upto n1 (szx (ax x)))))) g→EvF TT 32 [x,.int .i64 n1] g Qf
 |0,x,g,n1,hk,_,_,_=>by omega
 |k+1,x,g,n1,hk,hx,h0,h1=>by
  intro Qf hQ;refine w32 hx ?_;obtain⟨k1,s1,r1,v1,a1,b1,p1,rfl,hs1,hr1,t1,u1⟩:=exr hx;have ex:=t1.els unE;have exl:=ex.1.1;have eu:=u1.els uP;have eul:=eu.1.1;have hc:=sO (cs:=[.int .i64 k1,.str s1,.str r1,.int .i64 v1,a1,b1,.int .i64 p1]) (c:=a1) (by simp);rw[wrp (by omega) (by omega)];have hz:upto n1 (szx (ax (.agg [.int .i64 k1,.str s1,.str r1,.int .i64 v1,a1,b1,.int .i64 p1])))=upto (upto (n1+1) (szP (((elO b1).drop 0).map aP))) (szE (((elO a1).drop 0).map ax)):=by
   simp only[ax,szx,abP,abE,List.drop_zero];rw[upt,upt];congr 2;unfold upto;split<;>omega
  rw[hz] at hQ;have args:∀n:Int,0≤n→n≤2049→Qf (.val (.d (.int .i64 (upto n (szE (((elO a1).drop 0).map ax)))))) g→L32_7 n 0 (.agg [.int .i64 k1,.str s1,.str r1,.int .i64 v1,a1,b1,.int .i64 p1]) g Qf:=by
   refine lU (len:=(elO a1).length) (λi=>∀n:Int,0≤n→n≤2049→Qf (.val (.d (.int .i64 (upto n (szE (((elO a1).drop i).map ax)))))) g→L32_7 n (i:Int) (.agg [.int .i64 k1,.str s1,.str r1,.int .i64 v1,a1,b1,.int .i64 p1]) g Qf) ?_ ?_ 0 (Nat.zero_le _)
   ·intro n h0 h1 hQ;refine w32_7 ?_;rw[show(fld (Dat.agg [.int .i64 k1,.str s1,.str r1,.int .i64 v1,a1,b1,.int .i64 p1]) 4)=a1 from rfl,Bg];rw[List.drop_length,show upto n (szE (([]:List Dat).map ax))=n from by simp only[List.map_nil,szE,upto];split<;>omega] at hQ;exact hQ
   ·intro i hi ih n h0 h1 hQ;refine w32_7 ?_;rw[show(fld (Dat.agg [.int .i64 k1,.str s1,.str r1,.int .i64 v1,a1,b1,.int .i64 p1]) 4)=a1 from rfl,Bl hi,geE hi];refine Bi.2 ⟨λq=>⟨inB hi,?_⟩,λq=>?_⟩
    ·have hsz:=siz hi;refine sir k _ g _ (by omega) (ex.2 _ (List.getElem_mem hi)) h0 (of_decide_eq_true q) _ ⟨_,rfl,?_⟩;rw[wra (by omega)];refine ih _ (ut _ h0).1 (ut _ h0).2 ?_;rw[←upt,←szd hi];exact hQ
    ·rw[ug _ (by have:=of_decide_eq_false q;omega) h1] at hQ;exact hQ
  refine lU (len:=(elO b1).length) (λi=>∀n:Int,0≤n→n≤2049→Qf (.val (.d (.int .i64 (upto (upto n (szP (((elO b1).drop i).map aP))) (szE (((elO a1).drop 0).map ax)))))) g→L32_3 n (i:Int) (.agg [.int .i64 k1,.str s1,.str r1,.int .i64 v1,a1,b1,.int .i64 p1]) g Qf) ?_ ?_ 0 (Nat.zero_le _) (n1+1) (by omega) (by omega) hQ
  ·intro n h0 h1 hQ;refine w32_3 ?_;rw[show(fld (Dat.agg [.int .i64 k1,.str s1,.str r1,.int .i64 v1,a1,b1,.int .i64 p1]) 5)=b1 from rfl,Bg];rw[List.drop_length,show upto n (szP (([]:List Dat).map aP))=n from by simp only[List.map_nil,szP,upto];split<;>omega] at hQ;exact args n h0 h1 hQ
  ·intro i hi ih n h0 h1 hQ;refine w32_3 ?_;rw[show(fld (Dat.agg [.int .i64 k1,.str s1,.str r1,.int .i64 v1,a1,b1,.int .i64 p1]) 5)=b1 from rfl,Bl hi,geE hi];refine Bi.2 ⟨λq=>⟨inB hi,?_⟩,λq=>?_⟩
   ·refine siP _ _ g _ (Nat.lt_succ_self _) (eu.2 _ (List.getElem_mem hi)) h0 (of_decide_eq_true q) _ ⟨_,rfl,?_⟩;rw[wra (by omega)];refine ih _ (ut _ h0).1 (ut _ h0).2 ?_;rw[←upt n,←szt hi];exact hQ
   ·rw[ug (szP (((elO b1).drop i).map aP)) (by have:=of_decide_eq_false q;omega) h1] at hQ;exact args n h0 h1 hQ
theorem paz(x:Dat)(g:Glob)(hx:Ha TT 28 x)(Qf:OGP)(hQ:Qf (.val (.d (.int .i64 (upto 0 (szx (abg x).e))))) g):EvF TT 101 [x] g Qf:=by
 refine w101 hx ?_;obtain⟨d1,k1,s1,r1,n1,a1,b1,p1,rfl,hd1,he1⟩:=pro hx;refine sid _ _ g _ (Nat.lt_succ_self _) he1 (by omega) (by omega) _ ⟨_,rfl,?_⟩;have e:IntKind.i64.wrap (2048-maxS true (-1) (lft 2048 (szx (ax (.agg [.int .i64 k1,.str s1,.str r1,.int .i64 n1,a1,b1,.int .i64 p1])))))=upto 0 (szx (ax (.agg [.int .i64 k1,.str s1,.str r1,.int .i64 n1,a1,b1,.int .i64 p1]))):=by
  have h:=lg (n:=2048) (szx (ax (.agg [.int .i64 k1,.str s1,.str r1,.int .i64 n1,a1,b1,.int .i64 p1]))) (by omega);have h2:maxS true (-1) (lft 2048 (szx (ax (.agg [.int .i64 k1,.str s1,.str r1,.int .i64 n1,a1,b1,.int .i64 p1]))))=lft 2048 (szx (ax (.agg [.int .i64 k1,.str s1,.str r1,.int .i64 n1,a1,b1,.int .i64 p1]))):=by
   simp only[maxS,if_true];split<;>omega
  rw[h2,wrp (by omega) (by omega)];unfold lft upto
  repeat' split
  all_goals omega
 show Qf (.val (.d (.int .i64 (IntKind.i64.wrap (2048-maxS true (-1) (lft 2048 (szx (ax (.agg [.int .i64 k1,.str s1,.str r1,.int .i64 n1,a1,b1,.int .i64 p1]))))))))) g;rw[e];exact hQ
theorem ref(x:Dat)(g:Glob)(hx:Ha TT 28 x)(Qf:OGP)(hQ:Qf (.val (.d (.int .i64 (upto 0 (szx (abg x).e))))) g):EvF TT 8 [x] g Qf:=by
 refine w8 hx ?_;obtain⟨d1,k1,s1,r1,n1,a1,b1,p1,rfl,hd1,he1⟩:=pro hx;refine sir _ _ g _ (Nat.lt_succ_self _) he1 (by omega) (by omega) _ ⟨_,rfl,?_⟩;have e:maxS false (upto 0 (szx (ax (.agg [.int .i64 k1,.str s1,.str r1,.int .i64 n1,a1,b1,.int .i64 p1])))) 2049=upto 0 (szx (ax (.agg [.int .i64 k1,.str s1,.str r1,.int .i64 n1,a1,b1,.int .i64 p1]))):=by
  have h:=ut (n:=0) (szx (ax (.agg [.int .i64 k1,.str s1,.str r1,.int .i64 n1,a1,b1,.int .i64 p1]))) (by omega);simp only[maxS];split
  ·rename_i h;cases h
  ·split<;>omega
 show Qf (.val (.d (.int .i64 (maxS false (upto 0 (szx (ax (.agg [.int .i64 k1,.str s1,.str r1,.int .i64 n1,a1,b1,.int .i64 p1])))) 2049)))) g;rw[e];exact hQ
end Go.Proofs.YtiheejdkkjfenaaGreatDoor.Pa
namespace Go.Proofs.YtiheejdkkjfenaaGreatDoor.Pa
open Go Go.Proofs.YtiheejdkkjfenaaGreatDoor.Am
mutual
def ndy:Ty→Nat
 |.mk _ _ _ a=>1+ny a
def ny:List Ty→Nat
 |[]=>0
 |x::xs=>ndy x+ny xs
end
mutual
def dTy:Ty→Nat
 |.mk _ _ _ a=>1+dpT a
def dpT:List Ty→Nat
 |[]=>0
 |x::xs=>max (dTy x) (dpT xs)
end
mutual
def dpt:Pt→Nat
 |.mk _ _ _ a _=>1+dP a
def dP:List Pt→Nat
 |[]=>0
 |x::xs=>max (dpt x) (dP xs)
end
mutual
def dpx:Ex'→Nat
 |.mk _ _ _ _ a b _=>1+max (dP b) (dE a)
def dE:List Ex'→Nat
 |[]=>0
 |x::xs=>max (dpx x) (dE xs)
end
theorem ndT{xs:List Dat}{i:Nat}(hi:i<xs.length):ny ((xs.drop i).map aT)=ndy (aT xs[i])+ny ((xs.drop (i+1)).map aT):=by
 rw[List.drop_eq_getElem_cons hi];rfl
theorem dpy{xs:List Dat}{i:Nat}(hi:i<xs.length):dpT ((xs.drop i).map aT)=max (dTy (aT xs[i])) (dpT ((xs.drop (i+1)).map aT)):=by
 rw[List.drop_eq_getElem_cons hi];rfl
theorem dpP{xs:List Dat}{i:Nat}(hi:i<xs.length):dP ((xs.drop i).map aP)=max (dpt (aP xs[i])) (dP ((xs.drop (i+1)).map aP)):=by
 rw[List.drop_eq_getElem_cons hi];rfl
theorem dpE{xs:List Dat}{i:Nat}(hi:i<xs.length):dE ((xs.drop i).map ax)=max (dpx (ax xs[i])) (dE ((xs.drop (i+1)).map ax)):=by
 rw[List.drop_eq_getElem_cons hi];rfl
theorem tdi(n:Nat):(n:Int).tdiv 10=((n/10:Nat):Int):=rfl
theorem wei:∀(k:Nat) (x:Dat) (g:Glob) (d n:Int),SizeOf.sizeOf x<k→Ha TT 61 x→0≤d→d≤601→0≤n→n≤20000→
 ∀(Qf:OGP),(∀r:Int,-1≤r→r≤20000→(0≤r→n+ndy (aT x)≤r∧d+dTy (aT x)≤601)→Qf (.val (.d (.int .i64 r))) g)→EvF TT 51 [x,.int .i64 d,.int .i64 n] g Qf
 |0,x,g,d,n,hk,_,_,_,_,_=>by omega
 |k+1,x,g,d,n,hk,hx,d0,d1,h0,h1=>by
  intro Qf hQ;obtain⟨k1,s1,v1,a1,rfl,hs1,t1⟩:=tpe hx;have ex:=t1.els uT;have exl:=ex.1.1;have hc:=sO (cs:=[.int .i64 k1,.str s1,.int .i64 v1,a1]) (c:=a1) (by simp);have hw:IntKind.i64.wrap (n+IntKind.i64.wrap (1+IntKind.i64.wrap (((elO a1).length:Int).tdiv 10)))=n+(1+(((elO a1).length/10:Nat):Int)):=by
   rw[tdi,wrp (n:=(((elO a1).length/10:Nat):Int)) (by omega) (by omega),wrp (n:=1+(((elO a1).length/10:Nat):Int)) (by omega) (by omega),wrp (by omega) (by omega)]
  refine w51 hx ⟨neZ (by decide),?_⟩;rw[show(fld (Dat.agg [.int .i64 k1,.str s1,.int .i64 v1,a1]) 3)=a1 from rfl,hw];refine Bi.2 ⟨λ_=>hQ _ (by omega) (by omega) (λh=>by omega),λq1=>Bi.2 ⟨λ_=>hQ _ (by omega) (by omega) (λh=>by omega),λq2=>?_⟩⟩;have q1:=of_decide_eq_false q1;have q2:=of_decide_eq_false q2;have e1:ndy (aT (.agg [.int .i64 k1,.str s1,.int .i64 v1,a1]))=1+ny (((elO a1).drop 0).map aT):=by simp only[aT,ndy,ay,List.drop_zero]
  have e2:dTy (aT (.agg [.int .i64 k1,.str s1,.int .i64 v1,a1]))=1+dpT (((elO a1).drop 0).map aT):=by simp only[aT,dTy,ay,List.drop_zero]
  rw[e1,e2] at hQ;refine lU (len:=(elO a1).length) (λi=>∀m:Int,-1≤m→m≤20000→(∀r:Int,-1≤r→r≤20000→(0≤r→0≤m∧m+ny (((elO a1).drop i).map aT)≤r∧d+(1+dpT (((elO a1).drop i).map aT))≤601)→Qf (.val (.d (.int .i64 r))) g)→L51_5 d m (i:Int) (.agg [.int .i64 k1,.str s1,.int .i64 v1,a1]) g Qf) ?_ ?_ 0 (Nat.zero_le _) _ (by omega) (by omega) (λr r0 r1 h=>hQ r r0 r1 λhr=>⟨by have:=(h hr).2.1;omega,by have:=(h hr).2.2;omega⟩)
  ·intro m m0 m1 hQ;refine w51_5 ?_;rw[show(fld (Dat.agg [.int .i64 k1,.str s1,.int .i64 v1,a1]) 3)=a1 from rfl,Bg];exact hQ _ m0 m1 λhr=>by rw[List.drop_length];simp only[List.map_nil,ny,dpT];omega
  ·intro i hi ih m m0 m1 hQ;refine w51_5 ?_;rw[show(fld (Dat.agg [.int .i64 k1,.str s1,.int .i64 v1,a1]) 3)=a1 from rfl,Bl hi,geE hi];refine Bi.2 ⟨λq=>⟨inB hi,?_⟩,λq=>hQ _ m0 m1 λhr=>by have:=of_decide_eq_false q;omega⟩;have hsz:=siz hi;rw[wrp (by omega) (by omega)];refine wei k _ g _ _ (by omega) (ex.2 _ (List.getElem_mem hi)) (by omega) (by omega) (of_decide_eq_true q) m1 _ λr r0 r1 hr=>⟨_,rfl,?_⟩
   rw[wra (by omega)];refine ih r r0 r1 λr' s0 s1 hr'=>hQ r' s0 s1 λh'=>?_;rw[ndT hi,dpy hi];have a:=hr' h';have b:=hr a.1;have c:=of_decide_eq_true q;omega
theorem weP:∀(k:Nat) (x:Dat) (g:Glob) (d n:Int),SizeOf.sizeOf x<k→Ha TT 52 x→0≤d→d≤601→0≤n→n≤20000→
 ∀(Qf:OGP),(∀r:Int,-1≤r→r≤20000→(0≤r→n+sPt (aP x)≤r∧d+dpt (aP x)≤601)→Qf (.val (.d (.int .i64 r))) g)→EvF TT 71 [x,.int .i64 d,.int .i64 n] g Qf
 |0,x,g,d,n,hk,_,_,_,_,_=>by omega
 |k+1,x,g,d,n,hk,hx,d0,d1,h0,h1=>by
  intro Qf hQ;obtain⟨k1,s1,v1,a1,p1,rfl,hs1,t1⟩:=ptt hx;have ex:=t1.els uP;have exl:=ex.1.1;have hc:=sO (cs:=[.int .i64 k1,.str s1,.int .i64 v1,a1,.int .i64 p1]) (c:=a1) (by simp);have hw:IntKind.i64.wrap (n+IntKind.i64.wrap (1+IntKind.i64.wrap (((elO a1).length:Int).tdiv 10)))=n+(1+(((elO a1).length/10:Nat):Int)):=by
   rw[tdi,wrp (n:=(((elO a1).length/10:Nat):Int)) (by omega) (by omega),wrp (n:=1+(((elO a1).length/10:Nat):Int)) (by omega) (by omega),wrp (by omega) (by omega)]
  refine w71 hx ⟨neZ (by decide),?_⟩;rw[show(fld (Dat.agg [.int .i64 k1,.str s1,.int .i64 v1,a1,.int .i64 p1]) 3)=a1 from rfl,hw];refine Bi.2 ⟨λ_=>hQ _ (by omega) (by omega) (λh=>by omega),λq1=>Bi.2 ⟨λ_=>hQ _ (by omega) (by omega) (λh=>by omega),λq2=>?_⟩⟩;have q1:=of_decide_eq_false q1;have q2:=of_decide_eq_false q2;have e1:sPt (aP (.agg [.int .i64 k1,.str s1,.int .i64 v1,a1,.int .i64 p1]))=1+szP (((elO a1).drop 0).map aP):=by simp only[aP,sPt,abP,List.drop_zero]
  have e2:dpt (aP (.agg [.int .i64 k1,.str s1,.int .i64 v1,a1,.int .i64 p1]))=1+dP (((elO a1).drop 0).map aP):=by simp only[aP,dpt,abP,List.drop_zero]
  rw[e1,e2] at hQ;refine lU (len:=(elO a1).length) (λi=>∀m:Int,-1≤m→m≤20000→(∀r:Int,-1≤r→r≤20000→(0≤r→0≤m∧m+szP (((elO a1).drop i).map aP)≤r∧d+(1+dP (((elO a1).drop i).map aP))≤601)→Qf (.val (.d (.int .i64 r))) g)→L71_5 d m (i:Int) (.agg [.int .i64 k1,.str s1,.int .i64 v1,a1,.int .i64 p1]) g Qf) ?_ ?_ 0 (Nat.zero_le _) _ (by omega) (by omega) (λr r0 r1 h=>hQ r r0 r1 λhr=>⟨by have:=(h hr).2.1;omega,by have:=(h hr).2.2;omega⟩)
  ·intro m m0 m1 hQ;refine w71_5 ?_;rw[show(fld (Dat.agg [.int .i64 k1,.str s1,.int .i64 v1,a1,.int .i64 p1]) 3)=a1 from rfl,Bg];exact hQ _ m0 m1 λhr=>by rw[List.drop_length];simp only[List.map_nil,szP,dP];omega
  ·intro i hi ih m m0 m1 hQ;refine w71_5 ?_;rw[show(fld (Dat.agg [.int .i64 k1,.str s1,.int .i64 v1,a1,.int .i64 p1]) 3)=a1 from rfl,Bl hi,geE hi];refine Bi.2 ⟨λq=>⟨inB hi,?_⟩,λq=>hQ _ m0 m1 λhr=>by have:=of_decide_eq_false q;omega⟩;have hsz:=siz hi;rw[wrp (by omega) (by omega)];refine weP k _ g _ _ (by omega) (ex.2 _ (List.getElem_mem hi)) (by omega) (by omega) (of_decide_eq_true q) m1 _ λr r0 r1 hr=>⟨_,rfl,?_⟩
   rw[wra (by omega)];refine ih r r0 r1 λr' s0 s1 hr'=>hQ r' s0 s1 λh'=>?_;rw[szt hi,dpP hi];have a:=hr' h';have b:=hr a.1;have c:=of_decide_eq_true q;omega
theorem weg:∀(k:Nat) (x:Dat) (g:Glob) (d n:Int),SizeOf.sizeOf x<k→Ha TT 26 x→0≤d→d≤601→0≤n→n≤20000→
 ∀(Qf:OGP),(∀r:Int,-1≤r→r≤20000→(0≤r→n+szx (ax x)≤r∧d+dpx (ax x)≤601)→Qf (.val (.d (.int .i64 r))) g)→EvF TT 58 [x,.int .i64 d,.int .i64 n] g Qf
 |0,x,g,d,n,hk,_,_,_,_,_=>by omega
 |k+1,x,g,d,n,hk,hx,d0,d1,h0,h1=>by
  intro Qf hQ;obtain⟨k1,s1,r1,v1,a1,b1,p1,rfl,hs1,hr1,t1,u1⟩:=exr hx;have ex:=t1.els unE;have exl:=ex.1.1;have eu:=u1.els uP;have eul:=eu.1.1;have hc:=sO (cs:=[.int .i64 k1,.str s1,.str r1,.int .i64 v1,a1,b1,.int .i64 p1]) (c:=a1) (by simp);have hw:IntKind.i64.wrap (n+IntKind.i64.wrap (IntKind.i64.wrap (1+IntKind.i64.wrap (((elO a1).length:Int).tdiv 10))+IntKind.i64.wrap (((elO b1).length:Int).tdiv 10)))=n+((1+(((elO a1).length/10:Nat):Int))+(((elO b1).length/10:Nat):Int)):=by
   rw[tdi,tdi,wrp (n:=(((elO a1).length/10:Nat):Int)) (by omega) (by omega),wrp (n:=(((elO b1).length/10:Nat):Int)) (by omega) (by omega),wrp (n:=1+(((elO a1).length/10:Nat):Int)) (by omega) (by omega),wrp (n:=(1+(((elO a1).length/10:Nat):Int))+(((elO b1).length/10:Nat):Int)) (by omega) (by omega),wrp (by omega) (by omega)]
  refine w58 hx ⟨neZ (by decide),neZ (by decide),?_⟩;rw[show(fld (Dat.agg [.int .i64 k1,.str s1,.str r1,.int .i64 v1,a1,b1,.int .i64 p1]) 4)=a1 from rfl,show(fld (Dat.agg [.int .i64 k1,.str s1,.str r1,.int .i64 v1,a1,b1,.int .i64 p1]) 5)=b1 from rfl,hw];refine Bi.2 ⟨λ_=>hQ _ (by omega) (by omega) (λh=>by omega),λq1=>Bi.2 ⟨λ_=>hQ _ (by omega) (by omega) (λh=>by omega),λq2=>?_⟩⟩;have q1:=of_decide_eq_false q1;have q2:=of_decide_eq_false q2;have e1:szx (ax (.agg [.int .i64 k1,.str s1,.str r1,.int .i64 v1,a1,b1,.int .i64 p1]))=1+szP (((elO b1).drop 0).map aP)+szE (((elO a1).drop 0).map ax):=by simp only[ax,szx,abP,abE,List.drop_zero]
  have e2:dpx (ax (.agg [.int .i64 k1,.str s1,.str r1,.int .i64 v1,a1,b1,.int .i64 p1]))=1+max (dP (((elO b1).drop 0).map aP)) (dE (((elO a1).drop 0).map ax)):=by simp only[ax,dpx,abP,abE,List.drop_zero]
  rw[e1,e2] at hQ;have args:∀m:Int,-1≤m→m≤20000→(∀r:Int,-1≤r→r≤20000→(0≤r→0≤m∧m+szE (((elO a1).drop 0).map ax)≤r∧d+(1+dE (((elO a1).drop 0).map ax))≤601)→Qf (.val (.d (.int .i64 r))) g)→L58_9 d m 0 (.agg [.int .i64 k1,.str s1,.str r1,.int .i64 v1,a1,b1,.int .i64 p1]) g Qf:=by
   refine lU (len:=(elO a1).length) (λi=>∀m:Int,-1≤m→m≤20000→(∀r:Int,-1≤r→r≤20000→(0≤r→0≤m∧m+szE (((elO a1).drop i).map ax)≤r∧d+(1+dE (((elO a1).drop i).map ax))≤601)→Qf (.val (.d (.int .i64 r))) g)→L58_9 d m (i:Int) (.agg [.int .i64 k1,.str s1,.str r1,.int .i64 v1,a1,b1,.int .i64 p1]) g Qf) ?_ ?_ 0 (Nat.zero_le _)
   ·intro m m0 m1 hQ;refine w58_9 ?_;rw[show(fld (Dat.agg [.int .i64 k1,.str s1,.str r1,.int .i64 v1,a1,b1,.int .i64 p1]) 4)=a1 from rfl,Bg];exact hQ _ m0 m1 λhr=>by rw[List.drop_length];simp only[List.map_nil,szE,dE];omega
   ·intro i hi ih m m0 m1 hQ;refine w58_9 ?_;rw[show(fld (Dat.agg [.int .i64 k1,.str s1,.str r1,.int .i64 v1,a1,b1,.int .i64 p1]) 4)=a1 from rfl,Bl hi,geE hi];refine Bi.2 ⟨λq=>⟨inB hi,?_⟩,λq=>hQ _ m0 m1 λhr=>by have:=of_decide_eq_false q;omega⟩;have hsz:=siz hi;rw[wrp (by omega) (by omega)];refine weg k _ g _ _ (by omega) (ex.2 _ (List.getElem_mem hi)) (by omega) (by omega) (of_decide_eq_true q) m1 _ λr r0 r1 hr=>⟨_,rfl,?_⟩
    rw[wra (by omega)];refine ih r r0 r1 λr' s0 s1 hr'=>hQ r' s0 s1 λh'=>?_;rw[szd hi,dpE hi];have a:=hr' h';have b:=hr a.1;have c:=of_decide_eq_true q;omega
  refine lU (len:=(elO b1).length) (λi=>∀m:Int,-1≤m→m≤20000→(∀r:Int,-1≤r→r≤20000→(0≤r→0≤m∧m+szP (((elO b1).drop i).map aP)+szE (((elO a1).drop 0).map ax)≤r∧d+(1+max (dP (((elO b1).drop i).map aP)) (dE (((elO a1).drop 0).map ax)))≤601)→Qf (.val (.d (.int .i64 r))) g)→L58_5 d m (i:Int) (.agg [.int .i64 k1,.str s1,.str r1,.int .i64 v1,a1,b1,.int .i64 p1]) g Qf) ?_ ?_ 0 (Nat.zero_le _) _ (by omega) (by omega) (λr r0 r1 h=>hQ r r0 r1 λhr=>⟨by have:=(h hr).2.1;omega,by have:=(h hr).2.2;omega⟩)
  ·intro m m0 m1 hQ;refine w58_5 ?_;rw[show(fld (Dat.agg [.int .i64 k1,.str s1,.str r1,.int .i64 v1,a1,b1,.int .i64 p1]) 5)=b1 from rfl,Bg];refine args m m0 m1 λr r0 r1 h=>hQ r r0 r1 λhr=>?_;rw[List.drop_length];have:=h hr;simp only[List.map_nil,szP,dP];omega
  ·intro i hi ih m m0 m1 hQ;refine w58_5 ?_;rw[show(fld (Dat.agg [.int .i64 k1,.str s1,.str r1,.int .i64 v1,a1,b1,.int .i64 p1]) 5)=b1 from rfl,Bl hi,geE hi];refine Bi.2 ⟨λq=>⟨inB hi,?_⟩,λq=>args m m0 m1 λr r0 r1 h=>hQ r r0 r1 λhr=>by have:=of_decide_eq_false q;have:=h hr;omega⟩;rw[wrp (by omega) (by omega)];refine weP _ _ g _ _ (Nat.lt_succ_self _) (eu.2 _ (List.getElem_mem hi)) (by omega) (by omega) (of_decide_eq_true q) m1 _ λr r0 r1 hr=>⟨_,rfl,?_⟩
   rw[wra (by omega)];refine ih r r0 r1 λr' s0 s1 hr'=>hQ r' s0 s1 λh'=>?_;rw[szt hi,dpP hi];have a:=hr' h';have b:=hr a.1;have c:=of_decide_eq_true q;omega
end Go.Proofs.YtiheejdkkjfenaaGreatDoor.Pa
namespace Go.Proofs.YtiheejdkkjfenaaGreatDoor.Pa
open Go Go.Proofs.YtiheejdkkjfenaaGreatDoor.Am
def SmT(x:Dat):Prop:=ndy (aT x)≤20000∧dTy (aT x)≤601
def SC(c:Dat):Prop:=∀t∈elO (fld c 1),SmT t
def SmD(d:Dat):Prop:=∀c∈elO (fld d 2),SC c
theorem als{xs:List Dat}{i:Nat}{P:Dat→Prop}(hi:i<xs.length)(h:∀j (hj:j<i),P (xs[j]'(by omega)))(hp:P xs[i]):∀j (hj:j<i+1),P (xs[j]'(by omega)):=λj hj=>by
 rcases Nat.lt_or_ge j i with q|q
 ·exact h j q
 ·have:j=i:=by omega
  subst this;exact hp
theorem ald{xs:List Dat}{P:Dat→Prop}(h:∀j (hj:j<xs.length),P xs[j]):∀x∈xs,P x:=λx hx=>by
 obtain⟨j,hj,rfl⟩:=List.mem_iff_getElem.1 hx;exact h j hj
theorem lar(x:Dat)(g:Glob)(hx:Ha TT 22 x)(Qf:OGP)(hT:Qf (.val (.d (.bool true))) g)(hF:(∀d∈elO x,SmD d)→Qf (.val (.d (.bool false))) g):EvF TT 26 [x] g Qf:=by
 have ex:=hx.els uD;have exl:=ex.1.1;refine w26 hx (Bi.2 ⟨λ_=>hT,λ_=>?_⟩);refine lU (len:=(elO x).length) (λi=>∀n:Int,0≤n→n≤20000→(hb:i≤(elO x).length)→(∀j (hj:j<i),SmD ((elO x)[j]'(by omega)))→L26_5 x n (i:Int) g Qf) ?_ ?_ 0 (Nat.zero_le _) 0 (by omega) (by omega) (Nat.zero_le _) (λj hj=>by omega)
 ·intro n n0 n1 hb hd;refine w26_5 ?_;rw[Bg];exact hF (ald hd)
 ·intro i hi ih n n0 n1 hb hd;refine w26_5 ?_;rw[Bl hi];refine⟨inB hi,Bi.2 ⟨λ_=>hT,λ_=>⟨inB hi,Bi.2 ⟨λ_=>hT,λ_=>?_⟩⟩⟩⟩;obtain⟨s1,a1,b1,p1,e1,hs1,ta1,tb1⟩:=det (ex.2 _ (List.getElem_mem hi));have hf:fld (gtE (elO x) (i:Int)) 2=b1:=by rw[geE hi,e1];rfl
  have hf':fld (elO x)[i] 2=b1:=by rw[e1];rfl
  have eb:=tb1.els uC;have ebl:=eb.1.1;refine lU (len:=(elO b1).length) (λj=>∀n:Int,0≤n→n≤20000→(hb:j≤(elO b1).length)→(∀q (hq:q<j),SC ((elO b1)[q]'(by omega)))→L26_10 x n (i:Int) (j:Int) g Qf) ?_ ?_ 0 (Nat.zero_le _) n n0 n1 (Nat.zero_le _) (λj hj=>by omega)
  ·intro n n0 n1 hb hc;refine w26_10 ⟨inB hi,?_⟩;rw[hf,Bg,wra (by omega)];exact ih n n0 n1 (by omega) (als hi hd (by unfold SmD;rw[hf'];exact ald hc))
  ·intro j hj ihj n n0 n1 hb hc;refine w26_10 ⟨inB hi,?_⟩;rw[hf,Bl hj];refine⟨inB hi,inB hj,Bi.2 ⟨λ_=>hT,λ_=>?_⟩⟩;obtain⟨t1,f1,d1,ht1,tf1⟩:=coy (eb.2 _ (List.getElem_mem hj));have hf2:fld (gtE (elO b1) (j:Int)) 1=f1:=by rw[geE hj,d1];rfl
   have hf2':fld (elO b1)[j] 1=f1:=by rw[d1];rfl
   have ef:=tf1.els uT;have efl:=ef.1.1;refine lU (len:=(elO f1).length) (λq=>∀n:Int,-1≤n→n≤20000→(hb:q≤(elO f1).length)→(0≤n→∀u (hu:u<q),SmT ((elO f1)[u]'(by omega)))→L26_15 x n (i:Int) (j:Int) (q:Int) g Qf) ?_ ?_ 0 (Nat.zero_le _) n (by omega) n1 (Nat.zero_le _) (λ_ j hj=>by omega)
   ·intro n n0 n1 hb hu;refine w26_15 ⟨inB hi,?_⟩;rw[hf,hf2,Bg];refine⟨inB hj,Bi.2 ⟨λ_=>hT,λq=>?_⟩⟩;have q:=of_decide_eq_false q;rw[wra (by omega)];exact ihj n (by omega) n1 (by omega) (als hj hc (by unfold SC;rw[hf2'];exact ald (hu (by omega))))
   ·intro q hq ihq n n0 n1 hb hu;refine w26_15 ⟨inB hi,?_⟩;rw[hf,hf2,Bl hq];refine⟨inB hj,Bi.2 ⟨λp=>⟨inB hi,inB hj,inB hq,?_⟩,λp=>Bi.2 ⟨λ_=>hT,λp'=>?_⟩⟩⟩
    ·rw[geE hq];have p:=of_decide_eq_true p;refine wei _ _ g _ _ (Nat.lt_succ_self _) (ef.2 _ (List.getElem_mem hq)) (by omega) (by omega) p n1 _ λr r0 r1 hr=>⟨_,rfl,?_⟩
     rw[wra (by omega)];exact ihq r r0 r1 (by omega) λhr0=>als hq (hu p) ⟨by have:=(hr hr0).1;omega,by have:=(hr hr0).2;omega⟩
    ·have p:=of_decide_eq_false p;have p':=of_decide_eq_false p';omega
theorem lae(x:Dat)(g:Glob)(hx:Ha TT 28 x)(Qf:OGP)(hT:Qf (.val (.d (.bool true))) g)
 (hF:(∀d∈elO (fld x 0),SmD d)→szx (abg x).e≤20000→dpx (abg x).e≤601→Qf (.val (.d (.bool false))) g):EvF TT 7 [x] g Qf:=by
 refine w7 hx ?_;obtain⟨d1,k1,s1,r1,n1,a1,b1,p1,rfl,hd1,he1⟩:=pro hx;refine lar d1 g hd1 _ ⟨_,rfl,Bi.2 ⟨λ_=>hT,λh=>(by cases h)⟩⟩ λhs=>⟨_,rfl,Bi.2 ⟨λh=>(by cases h),λ_=>?_⟩⟩
 refine w31 he1 (weg _ _ g _ _ (Nat.lt_succ_self _) he1 (by omega) (by omega) (by omega) (by omega) _ λr l0 l1 hr=>⟨_,rfl,⟨_,rfl,?_⟩⟩)
 by_cases h:r<0
 ·rw[decide_eq_true h];exact hT
 ·rw[decide_eq_false h];have:=hr (by omega);refine hF hs ?_ ?_
  ·show szx (ax (.agg [.int .i64 k1,.str s1,.str r1,.int .i64 n1,a1,b1,.int .i64 p1]))≤20000;omega
  ·show dpx (ax (.agg [.int .i64 k1,.str s1,.str r1,.int .i64 n1,a1,b1,.int .i64 p1]))≤601;omega
end Go.Proofs.YtiheejdkkjfenaaGreatDoor.Pa
namespace Go.Proofs.YtiheejdkkjfenaaGreatDoor.Pa
open Go Go.Proofs.YtiheejdkkjfenaaGreatDoor.Am
variable{x0 x21 x7 x9 y1 y2:Dat}{g:Glob}{Qf:OGP}{n1 n10 n11 n22 n23 n3 n5 n6 n8 n9:Int}
def L104_3(n3:Int)(x7:Dat)(n8 n9:Int)(g:Glob)(Qf:OGP):=LC 104 Tryz.f104 [1,1,0,1,0] Qf 1 [(3,iv n3),(7,.v 59 (x7)),(8,iv n8),(9,iv n9)] [] g
def lo104:List CuI:=[⟨3,[K 3,K 7,K 8,K 9],[]⟩]
theorem w104(h0:Ha TT 61 x0)
 (h:L104_3 0 (fld x0 3) ((elO (fld x0 3)).length:Int) 0 g Qf):
 EvF TT 104 [x0] g Qf:=
 sF Tryz.f104 lo104 [(61,x0)] ⟨h0,trivial⟩ h
theorem w104_3
 (h:Br (decide (n9<n8)) (InB n9 (elO x7).length∧EvF TT 104 [gtE (elO x7) n9] g (KQ Qf λv g'=>∃n,v=.d (.int .i64 n)∧L104_3 (maxS true n3 n) x7 n8 (IntKind.i64.wrap (n9+1)) g' Qf)) (Qf (.val (.d (.int .i64 (IntKind.i64.wrap (n3+1))))) g)):
 L104_3 n3 x7 n8 n9 g Qf:=sC lo104 h
def L170_3(n3:Int)(x7:Dat)(n8 n9:Int)(g:Glob)(Qf:OGP):=LC 170 Tryz.f170 [1,1,0,1,0] Qf 1 [(3,iv n3),(7,.v 24 (x7)),(8,iv n8),(9,iv n9)] [] g
def lo170:List CuI:=[⟨3,[K 3,K 7,K 8,K 9],[]⟩]
theorem w170(h0:Ha TT 52 x0)
 (h:L170_3 0 (fld x0 3) ((elO (fld x0 3)).length:Int) 0 g Qf):
 EvF TT 170 [x0] g Qf:=
 sF Tryz.f170 lo170 [(52,x0)] ⟨h0,trivial⟩ h
theorem w170_3
 (h:Br (decide (n9<n8)) (InB n9 (elO x7).length∧EvF TT 170 [gtE (elO x7) n9] g (KQ Qf λv g'=>∃n,v=.d (.int .i64 n)∧L170_3 (maxS true n3 n) x7 n8 (IntKind.i64.wrap (n9+1)) g' Qf)) (Qf (.val (.d (.int .i64 (IntKind.i64.wrap (n3+1))))) g)):
 L170_3 n3 x7 n8 n9 g Qf:=sC lo170 h
def L103_3(n3:Int)(x9:Dat)(n10 n11:Int)(y1:Dat)(g:Glob)(Qf:OGP):=LC 103 Tryz.f103 [1,1,0,1,0] Qf 1 [(1,.loc 1 0 0),(3,iv n3),(9,.v 24 (x9)),(10,iv n10),(11,iv n11)] [(1,.whole 26 y1)] g
def L103_8(n3:Int)(x21:Dat)(n22 n23:Int)(g:Glob)(Qf:OGP):=LC 103 Tryz.f103 [1,1,1,0,1,0] Qf 1 [(3,iv n3),(21,.v 23 (x21)),(22,iv n22),(23,iv n23)] [] g
def lo103:List CuI:=[⟨3,[K 1,K 3,K 9,K 10,K 11],[(1,.whole 26)]⟩,⟨8,[K 3,K 21,K 22,K 23],[]⟩]
theorem w103(h0:Ha TT 26 x0)
 (h:L103_3 0 (fld x0 5) ((elO (fld x0 5)).length:Int) 0 x0 g Qf):
 EvF TT 103 [x0] g Qf:=
 sF Tryz.f103 lo103 [(26,x0)] ⟨h0,trivial⟩ h
theorem w103_3
 (h:Br (decide (n11<n10)) (InB n11 (elO x9).length∧EvF TT 170 [gtE (elO x9) n11] g (KQ Qf λv g'=>∃n,v=.d (.int .i64 n)∧L103_3 (maxS true n3 n) x9 n10 (IntKind.i64.wrap (n11+1)) y1 g' Qf)) (L103_8 n3 (fld y1 4) ((elO (fld y1 4)).length:Int) 0 g Qf)):
 L103_3 n3 x9 n10 n11 y1 g Qf:=sC lo103 h
theorem w103_8
 (h:Br (decide (n23<n22)) (InB n23 (elO x21).length∧EvF TT 103 [gtE (elO x21) n23] g (KQ Qf λv g'=>∃n,v=.d (.int .i64 n)∧L103_8 (maxS true n3 n) x21 n22 (IntKind.i64.wrap (n23+1)) g' Qf)) (Qf (.val (.d (.int .i64 (IntKind.i64.wrap (n3+1))))) g)):
 L103_8 n3 x21 n22 n23 g Qf:=sC lo103 h
def L85_4(n1 n5:Int)(y2:Dat)(g:Glob)(Qf:OGP):=LC 85 Tryz.f85 [1,1,0,1,0] Qf 2 [(1,iv n1),(2,.loc 2 0 0),(5,iv n5)] [(2,.whole 61 y2)] g
def lo85:List CuI:=[⟨4,[K 1,K 2,K 5],[(2,.whole 61)]⟩]
theorem w85(h0:Ha TT 61 x0)
 (h:Br (n1==0) (Qf (.val (.d (.bool true))) g) (L85_4 n1 0 x0 g Qf)):
 EvF TT 85 [x0,.int .i64 n1] g Qf:=
 sF Tryz.f85 lo85 [(61,x0),(3,.int .i64 n1)] ⟨h0,tyI rfl,trivial⟩ h
theorem w85_4
 (h:Br (decide (n5<((elO (fld y2 3)).length:Int))) (InB n5 (elO (fld y2 3)).length∧EvF TT 85 [gtE (elO (fld y2 3)) n5,.int .i64 (IntKind.i64.wrap (n1-1))] g (KQ Qf λv g'=>∃b,v=.d (.bool b)∧Br b (Qf (.val (.d (.bool true))) g') (L85_4 n1 (IntKind.i64.wrap (n5+1)) y2 g' Qf))) (Qf (.val (.d (.bool false))) g)):
 L85_4 n1 n5 y2 g Qf:=sC lo85 h
def L195_4(n1 n5:Int)(y2:Dat)(g:Glob)(Qf:OGP):=LC 195 Tryz.f195 [1,1,0,1,0] Qf 2 [(1,iv n1),(2,.loc 2 0 0),(5,iv n5)] [(2,.whole 52 y2)] g
def lo195:List CuI:=[⟨4,[K 1,K 2,K 5],[(2,.whole 52)]⟩]
theorem w195(h0:Ha TT 52 x0)
 (h:Br (n1==0) (Qf (.val (.d (.bool true))) g) (L195_4 n1 0 x0 g Qf)):
 EvF TT 195 [x0,.int .i64 n1] g Qf:=
 sF Tryz.f195 lo195 [(52,x0),(3,.int .i64 n1)] ⟨h0,tyI rfl,trivial⟩ h
theorem w195_4
 (h:Br (decide (n5<((elO (fld y2 3)).length:Int))) (InB n5 (elO (fld y2 3)).length∧EvF TT 195 [gtE (elO (fld y2 3)) n5,.int .i64 (IntKind.i64.wrap (n1-1))] g (KQ Qf λv g'=>∃b,v=.d (.bool b)∧Br b (Qf (.val (.d (.bool true))) g') (L195_4 n1 (IntKind.i64.wrap (n5+1)) y2 g' Qf))) (Qf (.val (.d (.bool false))) g)):
 L195_4 n1 n5 y2 g Qf:=sC lo195 h
def L141_4(n1 n5:Int)(y2:Dat)(g:Glob)(Qf:OGP):=LC 141 Tryz.f141 [1,1,0,1,0] Qf 2 [(1,iv n1),(2,.loc 2 0 0),(5,iv n5)] [(2,.whole 26 y2)] g
def L141_9(n1 n6:Int)(y2:Dat)(g:Glob)(Qf:OGP):=LC 141 Tryz.f141 [1,1,1,0,1,0] Qf 2 [(1,iv n1),(2,.loc 2 0 0),(6,iv n6)] [(2,.whole 26 y2)] g
def lo141:List CuI:=[⟨4,[K 1,K 2,K 5],[(2,.whole 26)]⟩,⟨9,[K 1,K 2,K 6],[(2,.whole 26)]⟩]
theorem w141(h0:Ha TT 26 x0)
 (h:Br (n1==0) (Qf (.val (.d (.bool true))) g) (L141_4 n1 0 x0 g Qf)):
 EvF TT 141 [x0,.int .i64 n1] g Qf:=
 sF Tryz.f141 lo141 [(26,x0),(3,.int .i64 n1)] ⟨h0,tyI rfl,trivial⟩ h
theorem w141_4
 (h:Br (decide (n5<((elO (fld y2 5)).length:Int))) (InB n5 (elO (fld y2 5)).length∧EvF TT 195 [gtE (elO (fld y2 5)) n5,.int .i64 (IntKind.i64.wrap (n1-1))] g (KQ Qf λv g'=>∃b,v=.d (.bool b)∧Br b (Qf (.val (.d (.bool true))) g') (L141_4 n1 (IntKind.i64.wrap (n5+1)) y2 g' Qf))) (L141_9 n1 0 y2 g Qf)):
 L141_4 n1 n5 y2 g Qf:=sC lo141 h
theorem w141_9
 (h:Br (decide (n6<((elO (fld y2 4)).length:Int))) (InB n6 (elO (fld y2 4)).length∧EvF TT 141 [gtE (elO (fld y2 4)) n6,.int .i64 (IntKind.i64.wrap (n1-1))] g (KQ Qf λv g'=>∃b,v=.d (.bool b)∧Br b (Qf (.val (.d (.bool true))) g') (L141_9 n1 (IntKind.i64.wrap (n6+1)) y2 g' Qf))) (Qf (.val (.d (.bool false))) g)):
 L141_9 n1 n6 y2 g Qf:=sC lo141 h
end Go.Proofs.YtiheejdkkjfenaaGreatDoor.Pa
namespace Go.Proofs.YtiheejdkkjfenaaGreatDoor.Pa
open Go Go.Proofs.YtiheejdkkjfenaaGreatDoor.Am
theorem man(a b:Nat):maxS true (a:Int) (b:Int)=((max a b:Nat):Int):=by
 simp only[maxS,if_true];split<;>omega
theorem tyD:∀(k:Nat) (x:Dat) (g:Glob),SizeOf.sizeOf x<k→Ha TT 61 x→dTy (aT x)≤20000→∀(Qf:OGP),Qf (.val (.d (.int .i64 (dTy (aT x):Nat)))) g→EvF TT 104 [x] g Qf
 |0,x,g,hk,_,_=>by omega
 |k+1,x,g,hk,hx,hd=>by
  intro Qf hQ;refine w104 hx ?_;obtain⟨k1,s1,v1,a1,rfl,hs1,t1⟩:=tpe hx;have ex:=t1.els uT;have exl:=ex.1.1;have hc:=sO (cs:=[.int .i64 k1,.str s1,.int .i64 v1,a1]) (c:=a1) (by simp);have e2:dTy (aT (.agg [.int .i64 k1,.str s1,.int .i64 v1,a1]))=1+dpT (((elO a1).drop 0).map aT):=by simp only[aT,dTy,ay,List.drop_zero]
  rw[e2] at hQ hd;rw[show(fld (Dat.agg [.int .i64 k1,.str s1,.int .i64 v1,a1]) 3)=a1 from rfl];refine lU (len:=(elO a1).length) (λi=>∀m:Nat,1+max m (dpT (((elO a1).drop i).map aT))≤20000→Qf (.val (.d (.int .i64 ((1+max m (dpT (((elO a1).drop i).map aT)):Nat))))) g→L104_3 (m:Int) a1 ((elO a1).length:Int) (i:Int) g Qf) ?_ ?_ 0 (Nat.zero_le _) 0 (by omega) (by rw[Nat.zero_max];exact hQ)
  ·intro m hm hQ;refine w104_3 ?_;rw[Bg,wra (by omega)];rw[List.drop_length] at hQ;simp only[List.map_nil,dpT,Nat.max_zero] at hQ;rw[show m+1=1+m by omega];exact hQ
  ·intro i hi ih m hm hQ;refine w104_3 ?_;rw[Bl hi,geE hi];refine⟨inB hi,?_⟩;have hsz:=siz hi;rw[dpy hi] at hm hQ;refine tyD k _ g (by omega) (ex.2 _ (List.getElem_mem hi)) (by omega) _ ⟨_,rfl,?_⟩;rw[wra (by omega),man];refine ih _ (by rw[Nat.max_assoc];exact hm) (by rw[Nat.max_assoc];exact hQ)
theorem paD:∀(k:Nat) (x:Dat) (g:Glob),SizeOf.sizeOf x<k→Ha TT 52 x→dpt (aP x)≤20000→∀(Qf:OGP),Qf (.val (.d (.int .i64 (dpt (aP x):Nat)))) g→EvF TT 170 [x] g Qf
 |0,x,g,hk,_,_=>by omega
 |k+1,x,g,hk,hx,hd=>by
  intro Qf hQ;refine w170 hx ?_;obtain⟨k1,s1,v1,a1,p1,rfl,hs1,t1⟩:=ptt hx;have ex:=t1.els uP;have exl:=ex.1.1;have hc:=sO (cs:=[.int .i64 k1,.str s1,.int .i64 v1,a1,.int .i64 p1]) (c:=a1) (by simp);have e2:dpt (aP (.agg [.int .i64 k1,.str s1,.int .i64 v1,a1,.int .i64 p1]))=1+dP (((elO a1).drop 0).map aP):=by simp only[aP,dpt,abP,List.drop_zero]
  rw[e2] at hQ hd;rw[show(fld (Dat.agg [.int .i64 k1,.str s1,.int .i64 v1,a1,.int .i64 p1]) 3)=a1 from rfl];refine lU (len:=(elO a1).length) (λi=>∀m:Nat,1+max m (dP (((elO a1).drop i).map aP))≤20000→Qf (.val (.d (.int .i64 ((1+max m (dP (((elO a1).drop i).map aP)):Nat))))) g→L170_3 (m:Int) a1 ((elO a1).length:Int) (i:Int) g Qf) ?_ ?_ 0 (Nat.zero_le _) 0 (by omega) (by rw[Nat.zero_max];exact hQ)
  ·intro m hm hQ;refine w170_3 ?_;rw[Bg,wra (by omega)];rw[List.drop_length] at hQ;simp only[List.map_nil,dP,Nat.max_zero] at hQ;rw[show m+1=1+m by omega];exact hQ
  ·intro i hi ih m hm hQ;refine w170_3 ?_;rw[Bl hi,geE hi];refine⟨inB hi,?_⟩;have hsz:=siz hi;rw[dpP hi] at hm hQ;refine paD k _ g (by omega) (ex.2 _ (List.getElem_mem hi)) (by omega) _ ⟨_,rfl,?_⟩;rw[wra (by omega),man];refine ih _ (by rw[Nat.max_assoc];exact hm) (by rw[Nat.max_assoc];exact hQ)
theorem dpo:∀(k:Nat) (x:Dat) (g:Glob),SizeOf.sizeOf x<k→Ha TT 26 x→dpx (ax x)≤20000→∀(Qf:OGP),Qf (.val (.d (.int .i64 (dpx (ax x):Nat)))) g→EvF TT 103 [x] g Qf
 |0,x,g,hk,_,_=>by omega
 |k+1,x,g,hk,hx,hd=>by
  intro Qf hQ;refine w103 hx ?_;obtain⟨k1,s1,r1,v1,a1,b1,p1,rfl,hs1,hr1,t1,u1⟩:=exr hx;have ex:=t1.els unE;have exl:=ex.1.1;have eu:=u1.els uP;have eul:=eu.1.1;have hc:=sO (cs:=[.int .i64 k1,.str s1,.str r1,.int .i64 v1,a1,b1,.int .i64 p1]) (c:=a1) (by simp);have e2:dpx (ax (.agg [.int .i64 k1,.str s1,.str r1,.int .i64 v1,a1,b1,.int .i64 p1]))=1+max (dP (((elO b1).drop 0).map aP)) (dE (((elO a1).drop 0).map ax)):=by simp only[ax,dpx,abP,abE,List.drop_zero]
  rw[e2] at hQ hd;rw[show(fld (Dat.agg [.int .i64 k1,.str s1,.str r1,.int .i64 v1,a1,b1,.int .i64 p1]) 5)=b1 from rfl];have args:∀m:Nat,1+max m (dE (((elO a1).drop 0).map ax))≤20000→Qf (.val (.d (.int .i64 ((1+max m (dE (((elO a1).drop 0).map ax)):Nat))))) g→L103_8 (m:Int) a1 ((elO a1).length:Int) 0 g Qf:=by
   refine lU (len:=(elO a1).length) (λi=>∀m:Nat,1+max m (dE (((elO a1).drop i).map ax))≤20000→Qf (.val (.d (.int .i64 ((1+max m (dE (((elO a1).drop i).map ax)):Nat))))) g→L103_8 (m:Int) a1 ((elO a1).length:Int) (i:Int) g Qf) ?_ ?_ 0 (Nat.zero_le _)
   ·intro m hm hQ;refine w103_8 ?_;rw[Bg,wra (by omega)];rw[List.drop_length] at hQ;simp only[List.map_nil,dE,Nat.max_zero] at hQ;rw[show m+1=1+m by omega];exact hQ
   ·intro i hi ih m hm hQ;refine w103_8 ?_;rw[Bl hi,geE hi];refine⟨inB hi,?_⟩;have hsz:=siz hi;rw[dpE hi] at hm hQ;refine dpo k _ g (by omega) (ex.2 _ (List.getElem_mem hi)) (by omega) _ ⟨_,rfl,?_⟩;rw[wra (by omega),man];refine ih _ (by rw[Nat.max_assoc];exact hm) (by rw[Nat.max_assoc];exact hQ)
  refine lU (len:=(elO b1).length) (λi=>∀m:Nat,1+max (max m (dP (((elO b1).drop i).map aP))) (dE (((elO a1).drop 0).map ax))≤20000→Qf (.val (.d (.int .i64 ((1+max (max m (dP (((elO b1).drop i).map aP))) (dE (((elO a1).drop 0).map ax)):Nat))))) g→L103_3 (m:Int) b1 ((elO b1).length:Int) (i:Int) (.agg [.int .i64 k1,.str s1,.str r1,.int .i64 v1,a1,b1,.int .i64 p1]) g Qf) ?_ ?_ 0 (Nat.zero_le _) 0 (by rw[Nat.zero_max];exact hd) (by rw[Nat.zero_max];exact hQ)
  ·intro m hm hQ;refine w103_3 ?_;rw[Bg,show(fld (Dat.agg [.int .i64 k1,.str s1,.str r1,.int .i64 v1,a1,b1,.int .i64 p1]) 4)=a1 from rfl];rw[List.drop_length] at hQ hm;simp only[List.map_nil,dP,Nat.max_zero] at hQ hm;exact args m hm hQ
  ·intro i hi ih m hm hQ;refine w103_3 ?_;rw[Bl hi,geE hi];refine⟨inB hi,?_⟩;rw[dpP hi] at hm hQ;refine paD _ _ g (Nat.lt_succ_self _) (eu.2 _ (List.getElem_mem hi)) (by omega) _ ⟨_,rfl,?_⟩;rw[wra (by omega),man];refine ih _ (by rw[Nat.max_assoc m];exact hm) (by rw[Nat.max_assoc m];exact hQ)
theorem dee:∀(k:Nat) (x:Dat) (g:Glob) (l:Nat),SizeOf.sizeOf x<k→Ha TT 61 x→l≤2^20→∀(Qf:OGP),Qf (.val (.d (.bool (decide (l<dTy (aT x)))))) g→EvF TT 85 [x,.int .i64 (l:Int)] g Qf
 |0,x,g,l,hk,_,_=>by omega
 |k+1,x,g,l,hk,hx,hl=>by
  intro Qf hQ;refine w85 hx ?_;obtain⟨k1,s1,v1,a1,rfl,hs1,t1⟩:=tpe hx;have ex:=t1.els uT;have exl:=ex.1.1;have hc:=sO (cs:=[.int .i64 k1,.str s1,.int .i64 v1,a1]) (c:=a1) (by simp);have e2:dTy (aT (.agg [.int .i64 k1,.str s1,.int .i64 v1,a1]))=1+dpT (((elO a1).drop 0).map aT):=by simp only[aT,dTy,ay,List.drop_zero]
  rw[e2] at hQ;refine Bi.2 ⟨λq=>?_,λq=>?_⟩
  ·have:(l:Int)=0:=by simpa using q
   rw[decide_eq_true (by omega)] at hQ;exact hQ
  ·have:¬(l:Int)=0:=by simpa using q
   obtain⟨l,rfl⟩:∃m,l=m+1:=⟨l-1,by omega⟩
   rw[show decide (l+1<1+dpT (((elO a1).drop 0).map aT))=decide (l<dpT (((elO a1).drop 0).map aT)) from decide_eq_decide.2 (by omega)] at hQ;refine lU (len:=(elO a1).length) (λi=>Qf (.val (.d (.bool (decide (l<dpT (((elO a1).drop i).map aT)))))) g→L85_4 ((l+1:Nat):Int) (i:Int) (.agg [.int .i64 k1,.str s1,.int .i64 v1,a1]) g Qf) ?_ ?_ 0 (Nat.zero_le _) hQ
   ·intro hQ;refine w85_4 ?_;rw[show(fld (Dat.agg [.int .i64 k1,.str s1,.int .i64 v1,a1]) 3)=a1 from rfl,Bg];rw[List.drop_length] at hQ;exact(show decide (l<dpT (([]:List Dat).map aT))=false from decide_eq_false (by simp[dpT]))▸hQ
   ·intro i hi ih hQ;refine w85_4 ?_;rw[show(fld (Dat.agg [.int .i64 k1,.str s1,.int .i64 v1,a1]) 3)=a1 from rfl,Bl hi,geE hi];refine⟨inB hi,?_⟩;have hsz:=siz hi;rw[show IntKind.i64.wrap (((l+1:Nat):Int)-1)=(l:Int) by rw[wrp (by omega) (by omega)];omega];refine dee k _ g l (by omega) (ex.2 _ (List.getElem_mem hi)) (by omega) _ ⟨_,rfl,Bi.2 ⟨λq=>?_,λq=>?_⟩⟩
    ·have q:=of_decide_eq_true q;rw[dpy hi,decide_eq_true (by omega)] at hQ;exact hQ
    ·have q:=of_decide_eq_false q;rw[wra (by omega)];refine ih ?_;rw[dpy hi] at hQ;exact(show decide (l<max (dTy (aT (elO a1)[i])) (dpT (((elO a1).drop (i+1)).map aT)))=decide (l<dpT (((elO a1).drop (i+1)).map aT)) from decide_eq_decide.2 (by omega))▸hQ
theorem deP:∀(k:Nat) (x:Dat) (g:Glob) (l:Nat),SizeOf.sizeOf x<k→Ha TT 52 x→l≤2^20→∀(Qf:OGP),Qf (.val (.d (.bool (decide (l<dpt (aP x)))))) g→EvF TT 195 [x,.int .i64 (l:Int)] g Qf
 |0,x,g,l,hk,_,_=>by omega
 |k+1,x,g,l,hk,hx,hl=>by
  intro Qf hQ;refine w195 hx ?_;obtain⟨k1,s1,v1,a1,p1,rfl,hs1,t1⟩:=ptt hx;have ex:=t1.els uP;have exl:=ex.1.1;have hc:=sO (cs:=[.int .i64 k1,.str s1,.int .i64 v1,a1,.int .i64 p1]) (c:=a1) (by simp);have e2:dpt (aP (.agg [.int .i64 k1,.str s1,.int .i64 v1,a1,.int .i64 p1]))=1+dP (((elO a1).drop 0).map aP):=by simp only[aP,dpt,abP,List.drop_zero]
  rw[e2] at hQ;refine Bi.2 ⟨λq=>?_,λq=>?_⟩
  ·have:(l:Int)=0:=by simpa using q
   rw[decide_eq_true (by omega)] at hQ;exact hQ
  ·have:¬(l:Int)=0:=by simpa using q
   obtain⟨l,rfl⟩:∃m,l=m+1:=⟨l-1,by omega⟩
   rw[show decide (l+1<1+dP (((elO a1).drop 0).map aP))=decide (l<dP (((elO a1).drop 0).map aP)) from decide_eq_decide.2 (by omega)] at hQ;refine lU (len:=(elO a1).length) (λi=>Qf (.val (.d (.bool (decide (l<dP (((elO a1).drop i).map aP)))))) g→L195_4 ((l+1:Nat):Int) (i:Int) (.agg [.int .i64 k1,.str s1,.int .i64 v1,a1,.int .i64 p1]) g Qf) ?_ ?_ 0 (Nat.zero_le _) hQ
   ·intro hQ;refine w195_4 ?_;rw[show(fld (Dat.agg [.int .i64 k1,.str s1,.int .i64 v1,a1,.int .i64 p1]) 3)=a1 from rfl,Bg];rw[List.drop_length] at hQ;exact(show decide (l<dP (([]:List Dat).map aP))=false from decide_eq_false (by simp[dP]))▸hQ
   ·intro i hi ih hQ;refine w195_4 ?_;rw[show(fld (Dat.agg [.int .i64 k1,.str s1,.int .i64 v1,a1,.int .i64 p1]) 3)=a1 from rfl,Bl hi,geE hi];refine⟨inB hi,?_⟩;have hsz:=siz hi;rw[show IntKind.i64.wrap (((l+1:Nat):Int)-1)=(l:Int) by rw[wrp (by omega) (by omega)];omega];refine deP k _ g l (by omega) (ex.2 _ (List.getElem_mem hi)) (by omega) _ ⟨_,rfl,Bi.2 ⟨λq=>?_,λq=>?_⟩⟩
    ·have q:=of_decide_eq_true q;rw[dpP hi,decide_eq_true (by omega)] at hQ;exact hQ
    ·have q:=of_decide_eq_false q;rw[wra (by omega)];refine ih ?_;rw[dpP hi] at hQ;exact(show decide (l<max (dpt (aP (elO a1)[i])) (dP (((elO a1).drop (i+1)).map aP)))=decide (l<dP (((elO a1).drop (i+1)).map aP)) from decide_eq_decide.2 (by omega))▸hQ
theorem dep:∀(k:Nat) (x:Dat) (g:Glob) (l:Nat),SizeOf.sizeOf x<k→Ha TT 26 x→l≤2^20→∀(Qf:OGP),Qf (.val (.d (.bool (decide (l<dpx (ax x)))))) g→EvF TT 141 [x,.int .i64 (l:Int)] g Qf
 |0,x,g,l,hk,_,_=>by omega
 |k+1,x,g,l,hk,hx,hl=>by
  intro Qf hQ;refine w141 hx ?_;obtain⟨k1,s1,r1,v1,a1,b1,p1,rfl,hs1,hr1,t1,u1⟩:=exr hx;have ex:=t1.els unE;have exl:=ex.1.1;have eu:=u1.els uP;have eul:=eu.1.1;have hc:=sO (cs:=[.int .i64 k1,.str s1,.str r1,.int .i64 v1,a1,b1,.int .i64 p1]) (c:=a1) (by simp);have e2:dpx (ax (.agg [.int .i64 k1,.str s1,.str r1,.int .i64 v1,a1,b1,.int .i64 p1]))=1+max (dP (((elO b1).drop 0).map aP)) (dE (((elO a1).drop 0).map ax)):=by simp only[ax,dpx,abP,abE,List.drop_zero]
  rw[e2] at hQ;refine Bi.2 ⟨λq=>?_,λq=>?_⟩
  ·have:(l:Int)=0:=by simpa using q
   rw[decide_eq_true (by omega)] at hQ;exact hQ
  ·have:¬(l:Int)=0:=by simpa using q
   obtain⟨l,rfl⟩:∃m,l=m+1:=⟨l-1,by omega⟩
   have hw:IntKind.i64.wrap (((l+1:Nat):Int)-1)=(l:Int):=by rw[wrp (by omega) (by omega)];omega
   rw[show decide (l+1<1+max (dP (((elO b1).drop 0).map aP)) (dE (((elO a1).drop 0).map ax)))=decide (l<max (dP (((elO b1).drop 0).map aP)) (dE (((elO a1).drop 0).map ax))) from decide_eq_decide.2 (by omega)] at hQ;have args:Qf (.val (.d (.bool (decide (l<dE (((elO a1).drop 0).map ax)))))) g→L141_9 ((l+1:Nat):Int) 0 (.agg [.int .i64 k1,.str s1,.str r1,.int .i64 v1,a1,b1,.int .i64 p1]) g Qf:=by
    refine lU (len:=(elO a1).length) (λi=>Qf (.val (.d (.bool (decide (l<dE (((elO a1).drop i).map ax)))))) g→L141_9 ((l+1:Nat):Int) (i:Int) (.agg [.int .i64 k1,.str s1,.str r1,.int .i64 v1,a1,b1,.int .i64 p1]) g Qf) ?_ ?_ 0 (Nat.zero_le _)
    ·intro hQ;refine w141_9 ?_;rw[show(fld (Dat.agg [.int .i64 k1,.str s1,.str r1,.int .i64 v1,a1,b1,.int .i64 p1]) 4)=a1 from rfl,Bg];rw[List.drop_length] at hQ;exact(show decide (l<dE (([]:List Dat).map ax))=false from decide_eq_false (by simp[dE]))▸hQ
    ·intro i hi ih hQ;refine w141_9 ?_;rw[show(fld (Dat.agg [.int .i64 k1,.str s1,.str r1,.int .i64 v1,a1,b1,.int .i64 p1]) 4)=a1 from rfl,Bl hi,geE hi];refine⟨inB hi,?_⟩;have hsz:=siz hi;rw[hw];refine dep k _ g l (by omega) (ex.2 _ (List.getElem_mem hi)) (by omega) _ ⟨_,rfl,Bi.2 ⟨λq=>?_,λq=>?_⟩⟩
     ·have q:=of_decide_eq_true q;rw[dpE hi,decide_eq_true (by omega)] at hQ;exact hQ
     ·have q:=of_decide_eq_false q;rw[wra (by omega)];refine ih ?_;rw[dpE hi] at hQ;exact(show decide (l<max (dpx (ax (elO a1)[i])) (dE (((elO a1).drop (i+1)).map ax)))=decide (l<dE (((elO a1).drop (i+1)).map ax)) from decide_eq_decide.2 (by omega))▸hQ
   refine lU (len:=(elO b1).length) (λi=>Qf (.val (.d (.bool (decide (l<max (dP (((elO b1).drop i).map aP)) (dE (((elO a1).drop 0).map ax))))))) g→L141_4 ((l+1:Nat):Int) (i:Int) (.agg [.int .i64 k1,.str s1,.str r1,.int .i64 v1,a1,b1,.int .i64 p1]) g Qf) ?_ ?_ 0 (Nat.zero_le _) hQ
   ·intro hQ;refine w141_4 ?_;rw[show(fld (Dat.agg [.int .i64 k1,.str s1,.str r1,.int .i64 v1,a1,b1,.int .i64 p1]) 5)=b1 from rfl,Bg];rw[List.drop_length] at hQ;refine args ?_;exact(show decide (l<max (dP (([]:List Dat).map aP)) (dE (((elO a1).drop 0).map ax)))=decide (l<dE (((elO a1).drop 0).map ax)) from decide_eq_decide.2 (by simp[dP]))▸hQ
   ·intro i hi ih hQ;refine w141_4 ?_;rw[show(fld (Dat.agg [.int .i64 k1,.str s1,.str r1,.int .i64 v1,a1,b1,.int .i64 p1]) 5)=b1 from rfl,Bl hi,geE hi];refine⟨inB hi,?_⟩;rw[hw];refine deP _ _ g l (Nat.lt_succ_self _) (eu.2 _ (List.getElem_mem hi)) (by omega) _ ⟨_,rfl,Bi.2 ⟨λq=>?_,λq=>?_⟩⟩
    ·have q:=of_decide_eq_true q;rw[dpP hi,decide_eq_true (by omega)] at hQ;exact hQ
    ·have q:=of_decide_eq_false q;rw[wra (by omega)];refine ih ?_;rw[dpP hi] at hQ;exact(show decide (l<max (max (dpt (aP (elO b1)[i])) (dP (((elO b1).drop (i+1)).map aP))) (dE (((elO a1).drop 0).map ax)))=decide (l<max (dP (((elO b1).drop (i+1)).map aP)) (dE (((elO a1).drop 0).map ax))) from decide_eq_decide.2 (by omega))▸hQ
end Go.Proofs.YtiheejdkkjfenaaGreatDoor.Pa
