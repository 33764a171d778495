/- Scope: which names are wrong first, told plainly. What functions of the program do, printed by wip/tools/sx/sx.py. Scope: the program's look at declared types. Scope: the program's look at all declared types. Scope: the program's look at expressions; its Check. Scope: the program's Check. -/
import Derived.Test.YtiheejdkkjfenaaGreatDoorSC
import Derived.Test.YtiheejdkkjfenaaGreatDoorRI
import Derived.Test.YtiheejdkkjfenaaGreatDoorSA
set_option linter.all false
set_option autoImplicit false
set_option maxRecDepth 100000
namespace Go.Proofs.YtiheejdkkjfenaaGreatDoor.Pa
open Go Go.Proofs.YtiheejdkkjfenaaGreatDoor.Am
def cFs(s:Str):List Cn→Option Nat
 |[]=>none
 |c::l=>bif c.s==s then some c.fs.length else cFs s l
def dcF(s:Str):List Dc→Option Nat
 |[]=>none
 |d::l=>match cFs s d.cs with
  |some n=>some n
  |none=>dcF s l
def dcP(s:Str):List Dc→Option Nat
 |[]=>none
 |d::l=>bif d.s==s then some d.ps.length else dcP s l
def dI(s:Str):List Dc→Int→Int
 |[],_=>-1
 |d::l,i=>bif d.s==s then i else dI s l (i+1)
theorem fip(s:Str):∀(l:List Cn) (i:Int),(∃(k:Nat) (c:Cn),fiC s l i=some (i+k)∧l[k]?=some c∧cFs s l=some c.fs.length)∨(fiC s l i=none∧cFs s l=none)
 |[],i=>.inr ⟨rfl,rfl⟩
 |c::l,i=>by
  cases h:c.s==s with
  |true=>exact .inl ⟨0,c,by simp[fiC,h],rfl,by simp[cFs,h]⟩
  |false=>
   rcases fip s l (i+1) with ⟨k,c',h1,h2,h3⟩|⟨h1,h2⟩
   ·exact .inl ⟨k+1,c',by simp only[fiC,h,cond_false,h1];congr 1;omega,by simpa using h2,by simp[cFs,h,h3]⟩
   ·exact .inr ⟨by simp[fiC,h,h1],by simp[cFs,h,h2]⟩
theorem fid(s:Str):∀(l:List Dc) (i:Int),(∃(k j:Nat) (d:Dc) (c:Cn),fD s l i=(i+k,(j:Int),true)∧l[k]?=some d∧d.cs[j]?=some c∧dcF s l=some c.fs.length)∨(fD s l i=(0,0,false)∧dcF s l=none)
 |[],i=>.inr ⟨rfl,rfl⟩
 |d::l,i=>by
  rcases fip s d.cs 0 with ⟨k,c,h1,h2,h3⟩|⟨h1,h2⟩
  ·exact .inl ⟨0,k,d,c,by simp[fD,h1],rfl,h2,by simp[dcF,h3]⟩
  ·rcases fid s l (i+1) with ⟨k,j,d',c',q1,q2,q3,q4⟩|⟨q1,q2⟩
   ·exact .inl ⟨k+1,j,d',c',by simp only[fD,h1,q1];congr 1;omega,by simpa using q2,q3,by simp[dcF,h2,q4]⟩
   ·exact .inr ⟨by simp[fD,h1,q1],by simp[dcF,h2,q2]⟩
theorem deI(s:Str):∀(l:List Dc) (i:Nat),(∃(k:Nat) (d:Dc),dI s l i=((i+k:Nat):Int)∧l[k]?=some d∧dcP s l=some d.ps.length)∨(dI s l i=-1∧dcP s l=none)
 |[],i=>.inr ⟨rfl,rfl⟩
 |d::l,i=>by
  cases h:d.s==s with
  |true=>exact .inl ⟨0,d,by simp[dI,h],rfl,by simp[dcP,h]⟩
  |false=>
   rcases deI s l (i+1) with ⟨k,d',h1,h2,h3⟩|⟨h1,h2⟩
   ·refine .inl ⟨k+1,d',?_,by simpa using h2,by simp[dcP,h,h3]⟩;simp only[dI,h,cond_false];rw[show((i:Int)+1)=((i+1:Nat):Int) from by omega,h1];omega
   ·refine .inr ⟨?_,by simp[dcP,h,h2]⟩;simp only[dI,h,cond_false];rw[show((i:Int)+1)=((i+1:Nat):Int) from by omega,h1]
def duS(acc:List Str):List Str→Bool
 |[]=>false
 |x::xs=>acc.contains x||duS (acc++[x]) xs
def cos(bf:List Dc)(acc:List Str):List Cn→Bool
 |[]=>false
 |c::cs=>(dcF c.s bf).isSome||(acc.contains c.s||cos bf (acc++[c.s]) cs)
def sIt:Str:=[105,110,116]
def deB(bf:List Dc)(d:Dc):Bool:=d.s==sIt||(bf.any (λe=>e.s==d.s)||(duS [] d.ps||cos bf [] d.cs))
def fB(bf:List Dc):List Dc→Option Int
 |[]=>none
 |d::ds=>bif deB bf d then some d.p else fB (bf++[d]) ds
mutual
def tyd(l:List Dc)(ps:List Str):Ty→Bool
 |.mk k s _ a=>bif k==2 then ps.contains s else bif k==4 then(match dcP s l with|none=>false|some m=>m==a.length&&tye l ps a) else tye l ps a
def tye(l:List Dc)(ps:List Str):List Ty→Bool
 |[]=>true
 |t::ts=>tyd l ps t&&tye l ps ts
end
def coT(l:List Dc)(ps:List Str):List Cn→Bool
 |[]=>true
 |c::cs=>tye l ps c.fs&&coT l ps cs
def fir(l:List Dc):List Dc→Option Int
 |[]=>none
 |d::ds=>bif coT l d.ps d.cs then fir l ds else some d.p
def coO(l:List Dc)(s:Str)(n:Nat):Bool:=dcF s l==some n
inductive PR where
 |bad (p:Int)
 |ok (l:List Str)
mutual
def ptF(l:List Dc):Pt→List Str→PR
 |.mk k s _ a p,ns=>bif k==2 then(bif ns.contains s then .bad p else pF l a (ns++[s])) else bif k==4&&!(coO l s a.length) then .bad p else pF l a ns
def pF(l:List Dc):List Pt→List Str→PR
 |[],ns=>.ok ns
 |x::xs,ns=>match ptF l x ns with
  |.bad p=>.bad p
  |.ok ns'=>pF l xs ns'
end
def nam(l:List Dc)(k:Int)(s r:Str)(b:List Pt)(i:Nat):PR:=
 bif k==7&&decide (0<i) then(match b[i-1]? with|some x=>ptF l x []|none=>.ok []) else .ok (bn k s r b i)
mutual
def exF(l:List Dc):Ex'→List Str→Option Int
 |.mk k s r _ a b p,bd=>bif k==1&&!(bd.contains s) then some p else bif k==8&&!(coO l s a.length) then some p else eF l (nam l k s r b) a 0 bd
def eF(l:List Dc)(nm:Nat→PR):List Ex'→Nat→List Str→Option Int
 |[],_,_=>none
 |x::xs,i,bd=>match nm i with
  |.bad p=>some p
  |.ok ns=>match exF l x (bd++ns) with
   |some p=>some p
   |none=>eF l nm xs (i+1) bd
end
def chN(P:Pg):Int×Int:=
 match fB (bas.map abD) P.ds with
 |some p=>(141,p)
 |none=>match fir (alD P) P.ds with
  |some p=>(141,p)
  |none=>match exF (alD P) P.e [] with
   |some p=>(140,p)
   |none=>(0,0)
def cA0(P:Pg):Int×Int:=bif rC P then chN P else(1,0)
def coF(sc:List Str):List Cn→Option (List Str)
 |[]=>some sc
 |c::cs=>bif sc.contains c.s then none else coF (sc++[c.s]) cs
def pBa(st sc:List Str):List Dc→Option Int
 |[]=>none
 |d::ds=>bif st.contains d.s then some d.p else bif duS [] d.ps then some d.p else match coF sc d.cs with
  |none=>some d.p
  |some sc'=>pBa (st++[d.s]) sc' ds
theorem bey(a b:Str):(a==b)=(b==a):=by rw[Bool.eq_iff_iff,beq_iff_eq,beq_iff_eq];exact⟨Eq.symm,Eq.symm⟩
theorem ann(bf:List Dc)(s:Str):bf.any (λe=>e.s==s)=(bf.map (·.s)).contains s:=by
 induction bf with
 |nil=>rfl
 |cons e bf ih=>rw[List.any_cons,List.map_cons,List.contains_cons,ih,bey]
theorem cnm(s:Str)(l:List Cn):(cFs s l).isSome=(l.map (·.s)).contains s:=by
 induction l with
 |nil=>rfl
 |cons c l ih=>
  rw[List.map_cons,List.contains_cons,←ih];rw[bey s c.s];cases h:c.s==s<;>simp[cFs,h]
def coN(l:List Dc):List Str:=l.flatMap λd=>d.cs.map (·.s)
theorem dcs(s:Str)(l:List Dc):(dcF s l).isSome=(coN l).contains s:=by
 induction l with
 |nil=>rfl
 |cons d l ih=>
  have:coN (d::l)=d.cs.map (·.s)++coN l:=by simp[coN]
  rw[this,List.contains_append,←ih,←cnm];show(match cFs s d.cs with|some n=>some n|none=>dcF s l).isSome=_;cases cFs s d.cs<;>simp
theorem cot(a b:List Str)(s:Str):(a++b).contains s=(a.contains s||b.contains s):=List.contains_append ..
theorem cnp(bf:List Dc)(sc:List Str)(hc:∀s,sc.contains s=(coN bf).contains s):∀(cs:List Cn) (acc:List Str),coF (sc++acc) cs=if cos bf acc cs then none else some (sc++acc++cs.map (·.s))
 |[],acc=>by simp[coF,cos]
 |c::cs,acc=>by
  have ih:=cnp bf sc hc cs (acc++[c.s]);unfold coF cos;rw[cot,hc,dcs,List.append_assoc,ih];cases (coN bf).contains c.s<;>cases acc.contains c.s<;>simp
theorem pBd:∀(ds bf:List Dc) (st sc:List Str),(∀s,st.contains s=(s==sIt||(bf.map (·.s)).contains s))→(∀s,sc.contains s=(coN bf).contains s)→pBa st sc ds=fB bf ds
 |[],bf,st,sc,_,_=>rfl
 |d::ds,bf,st,sc,h1,h2=>by
  unfold pBa fB deB;have e1:=ann bf d.s;have hcf:=cnp bf sc h2 d.cs [];rw[List.append_nil] at hcf;rw[h1,hcf,e1];have key:cos bf [] d.cs=false→pBa (st++[d.s]) (sc++d.cs.map (·.s)) ds=fB (bf++[d]) ds:=λhb=>by
   refine pBd ds (bf++[d]) _ _ (λs=>?_) (λs=>?_)
   ·rw[cot,h1,List.map_append,cot,Bool.or_assoc];rfl
   ·have:coN (bf++[d])=coN bf++d.cs.map (·.s):=by simp[coN]
    rw[this,cot,cot,h2]
  cases d.s==sIt<;>cases (bf.map (·.s)).contains d.s<;>cases duS [] d.ps<;>cases hE:cos bf [] d.cs<;>first|rfl|exact key hE
theorem fia:∀(a b bf:List Dc),fB bf a=none→fB bf (a++b)=fB (bf++a) b
 |[],b,bf,_=>by simp
 |d::a,b,bf,h=>by
  unfold fB at h;cases hd:deB bf d with
  |true=>rw[hd] at h;cases h
  |false=>
   rw[hd] at h;have:=fia a b (bf++[d]) h;show(bif deB bf d then some d.p else fB (bf++[d]) (a++b))=_;rw[hd,cond_false,this,List.append_assoc];rfl
theorem bag:fB [] (bas.map abD)=none:=by decide
theorem pBl(P:Pg):pBa [sIt] [] (alD P)=fB (bas.map abD) P.ds:=by
 rw[pBd (alD P) [] [sIt] [] (λs=>rfl) (λs=>rfl)];unfold alD;rw[fia _ _ _ bag,List.nil_append]
theorem fiT(P:Pg):fir (alD P) (alD P)=fir (alD P) P.ds:=by
 have h:∀l:List Dc,l=alD P→fir l (alD P)=fir l P.ds:=λl hl=>by
  have hp:dcP [108,105,115,116] l=some 1:=by rw[hl];rfl
  show fir l (bas.map abD++P.ds)=_;have e:bas.map abD=[⟨[117,110,105,116],[],[⟨[85,110,105,116],[]⟩],0⟩,⟨[98,111,111,108],[],[⟨[70,97,108,115,101],[]⟩,⟨[84,114,117,101],[]⟩],0⟩,
   ⟨[108,105,115,116],[[97]],[⟨[78,105,108],[]⟩,⟨[67,111,110,115],[.mk 2 [97] 0 [],.mk 4 [108,105,115,116] 0 [.mk 2 [97] 0 []]]⟩],0⟩]:=rfl
  rw[e];simp[fir,coT,tye,tyd,hp]
 exact h _ rfl
end Go.Proofs.YtiheejdkkjfenaaGreatDoor.Pa
namespace Go.Proofs.YtiheejdkkjfenaaGreatDoor.Pa
open Go Go.Proofs.YtiheejdkkjfenaaGreatDoor.Am
variable{b0:Bool}{n1 n100 n101 n11 n2 n23 n24 n3 n35 n36 n4 n43 n44 n45 n5 n6 n62 n63 n7 n8 n86 n87 n93 n94:Int}{g:Glob}{Qf:OGP}{x0 x1 x2 x22 x34 x4 x42 x43 x61 x85 x92 x99 y1 y11 y3 y4 y5:Dat}{s1:List UInt8}{p0 p1 p2 p3 p4 p5 p6:Nat}
theorem w109
 (h:Br (!b0) (Qf (.panic (.iface 111 (.agg [.int .i64 (intOf (.int .i64 n1)),.int .i64 (intOf (.int .i64 n2))]))) g) (Qf (.val (.tuple [])) g)):
 EvF TT 109 [.bool b0,.int .i64 n1,.int .i64 n2] g Qf:=
 sF Tryz.f109 [] [(4,.bool b0),(33,.int .i64 n1),(3,.int .i64 n2)] ⟨tyl rfl,tyI rfl,tyI rfl,trivial⟩ h
theorem w110(h0:Ha TT 82 x0)(h1:s1.length≤2^40)
 (h:EvF TT 180 [x0,.str s1] g (KQ Qf λv g'=>∃n,v=.d (.int .i64 n)∧Qf (.val (.d (.bool (decide (0≤n))))) g')):
 EvF TT 110 [x0,.str s1] g Qf:=
 sF Tryz.f110 [] [(82,x0),(9,.str s1)] ⟨h0,tyt rfl h1,trivial⟩ h
def L180_2(x0:Dat)(s1:List UInt8)(n7 n8:Int)(g:Glob)(Qf:OGP):=LC 180 Tryz.f180 [1,0,1,0] Qf 2 [(0,.v 82 (x0)),(1,.v 9 (.str s1)),(7,iv n7),(8,iv n8)] [] g
def lo180:List CuI:=[⟨2,[K 0,K 1,K 7,K 8],[]⟩]
theorem w180(h0:Ha TT 82 x0)(h1:s1.length≤2^40)
 (h:L180_2 x0 s1 ((elO x0).length:Int) 0 g Qf):
 EvF TT 180 [x0,.str s1] g Qf:=
 sF Tryz.f180 lo180 [(82,x0),(9,.str s1)] ⟨h0,tyt rfl h1,trivial⟩ h
theorem w180_2
 (h:Br (decide (n8<n7)) (InB n8 (elO x0).length∧Br (s1==strOf (fld (gtE (elO x0) n8) 0)) (Qf (.val (.d (.int .i64 n8))) g) (L180_2 x0 s1 n7 (IntKind.i64.wrap (n8+1)) g Qf)) (Qf (.val (.d (.int .i64 (-1)))) g)):
 L180_2 x0 s1 n7 n8 g Qf:=sC lo180 h
theorem w181(h0:Ha TT 84 x0)
 (h:∃s,s.length.le 1099511627776∧GOk TT 9 g p1 1 (.str s)∧Qf (.val (.d (.bool (strOf (fld x0 0)==s)))) g):
 EvF TT 181 [x0,.ptr (some (p1,0))] g Qf:=
 sF Tryz.f181 [] [(84,x0),(0,.ptr (some (p1,0)))] ⟨h0,tyr rfl,trivial⟩ h
theorem w182(h0:Ha TT 61 x0)
 (h:∃i o,GOk TT 112 g p1 0 (.ptr (some (i,o)))∧∃x,Ha TT 84 x∧GOk TT 84 g p2 0 x∧EvF TT 111 [.ptr (some (i,o)),x0,x] g (KQ Qf λv g'=>∃b,v=.d (.bool b)∧Qf (.val (.d (.bool !b))) g')):
 EvF TT 182 [x0,.ptr (some (p1,0)),.ptr (some (p2,0))] g Qf:=
 sF Tryz.f182 [] [(61,x0),(0,.ptr (some (p1,0))),(0,.ptr (some (p2,0)))] ⟨h0,tyr rfl,tyr rfl,trivial⟩ h
def L111_1(p3 p4 p5:Nat)(g:Glob)(Qf:OGP):=LC 111 Tryz.f111 [1] Qf 3 [(3,.v 0 (.ptr (some (p3,0)))),(4,.v 0 (.ptr (some (p4,0)))),(5,.v 0 (.ptr (some (p5,0))))] [] g
def L111_8(p3 p4 p5:Nat)(g:Glob)(Qf:OGP):=LC 111 Tryz.f111 [1,1] Qf 3 [(3,.v 0 (.ptr (some (p3,0)))),(4,.v 0 (.ptr (some (p4,0)))),(5,.v 0 (.ptr (some (p5,0))))] [] g
def jA1:List CuI:=[⟨1,[K 3,K 4,K 5],[]⟩,⟨8,[K 3,K 4,K 5],[]⟩]
theorem w111(h1:Ha TT 61 x1)(h2:Ha TT 84 x2)
 (h:L111_1 g.boxes.length (gne g [.ptr (some (p0,0))]).boxes.length (gne (gne g [.ptr (some (p0,0))]) [.int .i64 (intOf (fld x1 0)),.str (strOf (fld x1 1)),.int .i64 (intOf (fld x1 2)),fld x1 3]).boxes.length (gne (gne (gne g [.ptr (some (p0,0))]) [.int .i64 (intOf (fld x1 0)),.str (strOf (fld x1 1)),.int .i64 (intOf (fld x1 2)),fld x1 3]) [.str (strOf (fld x2 0)),fld x2 1,fld x2 2,.int .i64 (intOf (fld x2 3))]) Qf):
 EvF TT 111 [.ptr (some (p0,0)),x1,x2] g Qf:=
 sxf (rk:=rk) (fn:=Tryz.f111) (loops:=[]) (joins:=jA1) (n:=100000) (args:=[(112,.ptr (some (p0,0))),(61,x1),(84,x2)]) rfl rfl rfl rfl ⟨tPt rfl,h1,h2,trivial⟩ (by kernel_rfl) h
theorem w111_1
 (h:∃n,GOk TT 3 g p4 0 (.int .i64 n)∧Br (n==2) (∃x,Ha TT 82 x∧GOk TT 82 g p5 1 x∧∃s,s.length.le 1099511627776∧GOk TT 9 g p4 1 (.str s)∧EvF TT 110 [x,.str s] g (KQ Qf λv g'=>∃b,v=.d (.bool b)∧Qf (.val (.d (.bool b))) g')) (Br (n==4) (∃i o,GOk TT 112 g p3 0 (.ptr (some (i,o)))∧∃x,Ha TT 22 x∧GOk TT 22 g i (o+0) x∧EvF TT 175 [x,.clo 181 [.ptr (some (p4,0))]] g (KQ Qf λv g'=>∃n,v=.d (.int .i64 n)∧Br (decide (n<0)) (Qf (.val (.d (.bool false))) g') (∃i o,GOk TT 112 g' p3 0 (.ptr (some (i,o)))∧∃x,Ha TT 22 x∧GOk TT 22 g' i (o+0) x∧InB n (elO x).length∧∃x_1,Ha TT 59 x_1∧GOk TT 59 g' p4 3 x_1∧Br (((elO (fld (gtE (elO x) n) 1)).length:Int)!=((elO x_1).length:Int)) (Qf (.val (.d (.bool false))) g') (L111_8 p3 p4 p5 g' Qf)))) (L111_8 p3 p4 p5 g Qf))):
 L111_1 p3 p4 p5 g Qf:=sxc (rk:=rk) (loops:=[]) (joins:=jA1) (n:=100000) (by kernel_rfl) h
theorem w111_8
 (h:∃x,Ha TT 59 x∧GOk TT 59 g p4 3 x∧EvF TT 177 [x,.clo 182 [.ptr (some (p3,0)),.ptr (some (p5,0))]] g (KQ Qf λv g'=>∃b,v=.d (.bool b)∧Qf (.val (.d (.bool !b))) g')):
 L111_8 p3 p4 p5 g Qf:=sxc (rk:=rk) (loops:=[]) (joins:=jA1) (n:=100000) (by kernel_rfl) h
theorem w112(h1:s1.length≤2^40)
 (h:∃x,Ha TT 22 x∧GOk TT 22 g p0 0 x∧EvF TT 49 [x,.str s1] g (KQ Qf λv g'=>∃n n_1 b,Ret v [.int .i64 n,.int .i64 n_1,.bool b]∧Br b (∃x,Ha TT 22 x∧GOk TT 22 g' p0 0 x∧InB n (elO x).length∧InB n_1 (elO (fld (gtE (elO x) n) 2)).length∧EvF TT 109 [.bool (((elO (fld (gtE (elO (fld (gtE (elO x) n) 2)) n_1) 1)).length:Int)==n2),.int .i64 140,.int .i64 n3] g' (KQ Qf λv g'=>Ret v []∧Qf (.val (.tuple [])) g')) (EvF TT 109 [.bool false,.int .i64 140,.int .i64 n3] g' (KQ Qf λv g'=>Ret v []∧Qf (.val (.tuple [])) g')))):
 EvF TT 112 [.ptr (some (p0,0)),.str s1,.int .i64 n2,.int .i64 n3] g Qf:=
 sF Tryz.f112 [] [(112,.ptr (some (p0,0))),(9,.str s1),(3,.int .i64 n2),(3,.int .i64 n3)] ⟨tPt rfl,tyt rfl h1,tyI rfl,tyI rfl,trivial⟩ h
def L113_8(p0 p2:Nat)(x43:Dat)(n44 n45:Int)(g:Glob)(Qf:OGP):=LC 113 Tryz.f113 [1,1,1,0] Qf 3 [(0,.v 112 (.ptr (some (p0,0)))),(2,.v 168 (.ptr (some (p2,0)))),(43,.v 24 (x43)),(44,iv n44),(45,iv n45)] [] g
def lo113:List CuI:=[⟨8,[K 0,K 2,K 43,K 44,K 45],[]⟩]
theorem w113(h1:Ha TT 52 x1)
 (h:Br (intOf (fld x1 0)==2) (∃x,Ha TT 82 x∧GOk TT 82 g p2 0 x∧EvF TT 110 [x,.str (strOf (fld x1 1))] g (KQ Qf λv g'=>∃b,v=.d (.bool b)∧EvF TT 109 [.bool !b,.int .i64 140,.int .i64 (intOf (fld x1 4))] g' (KQ Qf λv g'=>Ret v []∧∃x,Ha TT 82 x∧GOk TT 82 g' p2 0 x∧Gm TT 82 p2 0 g' (gto g' 1 1)∧Fits ((elO x).length+[Dat.str (strOf (fld x1 1))].length) 16∧∃r g'_1,gpp 1 x [.str (strOf (fld x1 1))] (gto g' 1 1)=some (r,g'_1)∧Gu g'_1 p2 0 1∧L113_8 p0 p2 (fld x1 3) ((elO (fld x1 3)).length:Int) 0 (gp g'_1 p2 0 r) Qf))) (Br (intOf (fld x1 0)==4) (EvF TT 112 [.ptr (some (p0,0)),.str (strOf (fld x1 1)),.int .i64 ((elO (fld x1 3)).length:Int),.int .i64 (intOf (fld x1 4))] g (KQ Qf λv g'=>Ret v []∧L113_8 p0 p2 (fld x1 3) ((elO (fld x1 3)).length:Int) 0 g' Qf)) (L113_8 p0 p2 (fld x1 3) ((elO (fld x1 3)).length:Int) 0 g Qf))):
 EvF TT 113 [.ptr (some (p0,0)),x1,.ptr (some (p2,0))] g Qf:=
 sF Tryz.f113 lo113 [(112,.ptr (some (p0,0))),(52,x1),(168,.ptr (some (p2,0)))] ⟨tPt rfl,h1,tPt rfl,trivial⟩ h
theorem w113_8
 (h:Br (decide (n45<n44)) (InB n45 (elO x43).length∧EvF TT 113 [.ptr (some (p0,0)),gtE (elO x43) n45,.ptr (some (p2,0))] g (KQ Qf λv g'=>Ret v []∧L113_8 p0 p2 x43 n44 (IntKind.i64.wrap (n45+1)) g' Qf)) (Qf (.val (.tuple [])) g)):
 L113_8 p0 p2 x43 n44 n45 g Qf:=sC lo113 h
theorem w116
 (h:∃i o,GOk TT 112 g p0 0 (.ptr (some (i,o)))∧∃x,Ha TT 26 x∧GOk TT 26 g p1 0 x∧EvF TT 66 [.ptr (some (i,o)),x] g (KQ Qf λv g'=>Ret v []∧Qf (.val (.tuple [])) g')):
 EvF TT 116 [.ptr (some (p0,0)),.ptr (some (p1,0))] g Qf:=
 sF Tryz.f116 [] [(0,.ptr (some (p0,0))),(0,.ptr (some (p1,0)))] ⟨tyr rfl,tyr rfl,trivial⟩ h
def L66_7(p2:Nat)(x34:Dat)(n35 n36:Int)(y3:Dat)(g:Glob)(Qf:OGP):=LC 66 Tryz.f66 [1,1,1,0] Qf 2 [(2,.v 0 (.ptr (some (p2,0)))),(3,.loc 3 0 0),(34,.v 23 (x34)),(35,iv n35),(36,iv n36)] [(3,.whole 26 y3)] g
def L66_9(p2:Nat)(n4:Int)(p5:Nat)(x34:Dat)(n35 n36:Int)(y3:Dat)(g:Glob)(Qf:OGP):=LC 66 Tryz.f66 [1,1,1,0,0,1,1,0,0,1] Qf 2 [(2,.v 0 (.ptr (some (p2,0)))),(3,.loc 3 0 0),(4,iv n4),(5,.v 0 (.ptr (some (p5,0)))),(34,.v 23 (x34)),(35,iv n35),(36,iv n36)] [(3,.whole 26 y3)] g
def L66_10(p2:Nat)(n4:Int)(p5 p6:Nat)(x34:Dat)(n35 n36:Int)(y3:Dat)(g:Glob)(Qf:OGP):=LC 66 Tryz.f66 [1,1,1,0,0,1,1,0,0,1,1] Qf 2 [(2,.v 0 (.ptr (some (p2,0)))),(3,.loc 3 0 0),(4,iv n4),(5,.v 0 (.ptr (some (p5,0)))),(6,.v 0 (.ptr (some (p6,0)))),(34,.v 23 (x34)),(35,iv n35),(36,iv n36)] [(3,.whole 26 y3)] g
def L66_13(p2 p5 p6:Nat)(x34:Dat)(n35 n36:Int)(y3:Dat)(g:Glob)(Qf:OGP):=LC 66 Tryz.f66 [1,1,1,0,0,1,1,0,0,1,1,1] Qf 2 [(2,.v 0 (.ptr (some (p2,0)))),(3,.loc 3 0 0),(5,.v 0 (.ptr (some (p5,0)))),(6,.v 0 (.ptr (some (p6,0)))),(34,.v 23 (x34)),(35,iv n35),(36,iv n36)] [(3,.whole 26 y3)] g
def lo66:List CuI:=[⟨7,[K 2,K 3,K 34,K 35,K 36],[(3,.whole 26)]⟩]
def jA2:List CuI:=[⟨9,[K 2,K 3,K 4,K 5,K 34,K 35,K 36],[(3,.whole 26)]⟩,⟨10,[K 2,K 3,K 4,K 5,K 6,K 34,K 35,K 36],[(3,.whole 26)]⟩,⟨13,[K 2,K 3,K 5,K 6,K 34,K 35,K 36],[(3,.whole 26)]⟩]
theorem w66(h1:Ha TT 26 x1)
 (h:Br (intOf (fld x1 0)==1) (∃i o,GOk TT 112 (gne g [.ptr (some (p0,0))]) g.boxes.length 0 (.ptr (some (i,o)))∧∃i_1,GOk TT 113 (gne g [.ptr (some (p0,0))]) i (o+1) (Dat.map (some i_1))∧∃n b,ML (gne g [.ptr (some (p0,0))]) (some i_1) (.int .i64 0) (.str (strOf (fld x1 1))) (.int .i64 n) b∧EvF TT 109 [.bool (decide (0<n)),.int .i64 140,.int .i64 (intOf (fld x1 6))] (gne g [.ptr (some (p0,0))]) (KQ Qf λv g'=>Ret v []∧L66_7 g.boxes.length (fld x1 4) ((elO (fld x1 4)).length:Int) 0 x1 g' Qf)) (Br (intOf (fld x1 0)==8) (∃i o,GOk TT 112 (gne g [.ptr (some (p0,0))]) g.boxes.length 0 (.ptr (some (i,o)))∧EvF TT 112 [.ptr (some (i,o)),.str (strOf (fld x1 1)),.int .i64 ((elO (fld x1 4)).length:Int),.int .i64 (intOf (fld x1 6))] (gne g [.ptr (some (p0,0))]) (KQ Qf λv g'=>Ret v []∧L66_7 g.boxes.length (fld x1 4) ((elO (fld x1 4)).length:Int) 0 x1 g' Qf)) (L66_7 g.boxes.length (fld x1 4) ((elO (fld x1 4)).length:Int) 0 x1 (gne g [.ptr (some (p0,0))]) Qf))):
 EvF TT 66 [.ptr (some (p0,0)),x1] g Qf:=
 sxf (rk:=rk) (fn:=Tryz.f66) (loops:=lo66) (joins:=jA2) (n:=100000) (args:=[(112,.ptr (some (p0,0))),(26,x1)]) rfl rfl rfl rfl ⟨tPt rfl,h1,trivial⟩ (by kernel_rfl) h
theorem w66_7
 (h:Br (decide (n36<n35)) (InB n36 (elO x34).length∧Gu (gne g [.int .i64 0,.str [],.str [],.int .i64 0,.nil,.nil,.int .i64 0]) g.boxes.length 0 7∧L66_9 p2 n36 g.boxes.length x34 n35 n36 y3 (gp (gne g [.int .i64 0,.str [],.str [],.int .i64 0,.nil,.nil,.int .i64 0]) g.boxes.length 0 (gtE (elO x34) n36)) Qf) (Qf (.val (.tuple [])) g)):
 L66_7 p2 x34 n35 n36 y3 g Qf:=sxc (rk:=rk) (loops:=lo66) (joins:=jA2) (n:=100000) (by kernel_rfl) h
theorem w66_9
 (h:L66_10 p2 n4 p5 g.boxes.length x34 n35 n36 y3 (gne g [Dat.nil]) Qf):
 L66_9 p2 n4 p5 x34 n35 n36 y3 g Qf:=sxc (rk:=rk) (loops:=lo66) (joins:=jA2) (n:=100000) (by kernel_rfl) h
theorem w66_10
 (h:Br (intOf (fld y3 0)==7) (Br (decide (0<n4)) (∃i o,GOk TT 112 g p2 0 (.ptr (some (i,o)))∧InB (IntKind.i64.wrap (n4-1)) (elO (fld y3 5)).length∧EvF TT 113 [.ptr (some (i,o)),gtE (elO (fld y3 5)) (IntKind.i64.wrap (n4-1)),.ptr (some (p6,0))] g (KQ Qf λv g'=>Ret v []∧L66_13 p2 p5 p6 x34 n35 n36 y3 g' Qf)) (EvF TT 114 [y3,.int .i64 n4] g (KQ Qf λv g'=>∃x,Ha TT 82 x∧Rt v x∧Gu g' p6 0 1∧L66_13 p2 p5 p6 x34 n35 n36 y3 (gp g' p6 0 x) Qf))) (EvF TT 114 [y3,.int .i64 n4] g (KQ Qf λv g'=>∃x,Ha TT 82 x∧Rt v x∧Gu g' p6 0 1∧L66_13 p2 p5 p6 x34 n35 n36 y3 (gp g' p6 0 x) Qf))):
 L66_10 p2 n4 p5 p6 x34 n35 n36 y3 g Qf:=sxc (rk:=rk) (loops:=lo66) (joins:=jA2) (n:=100000) (by kernel_rfl) h
theorem w66_13
 (h:∃i o,GOk TT 112 g p2 0 (.ptr (some (i,o)))∧∃x,Ha TT 82 x∧GOk TT 82 g p6 0 x∧EvF TT 115 [.ptr (some (i,o)),x,.clo 116 [.ptr (some (p2,0)),.ptr (some (p5,0))]] g (KQ Qf λv g'=>Ret v []∧L66_7 p2 x34 n35 (IntKind.i64.wrap (n36+1)) y3 g' Qf)):
 L66_13 p2 p5 p6 x34 n35 n36 y3 g Qf:=sxc (rk:=rk) (loops:=lo66) (joins:=jA2) (n:=100000) (by kernel_rfl) h
def L65_2(p0 p2 p3:Nat)(x22:Dat)(n23 n24:Int)(g:Glob)(Qf:OGP):=LC 65 Tryz.f65 [1,0,1,0] Qf 1 [(0,.v 112 (.ptr (some (p0,0)))),(2,.v 113 (.map (some p2))),(3,.v 113 (.map (some p3))),(22,.v 22 (x22)),(23,iv n23),(24,iv n24)] [] g
def L65_7(p0 p2 p3:Nat)(x22:Dat)(n23 n24:Int)(x42:Dat)(n43 n44:Int)(y5:Dat)(g:Glob)(Qf:OGP):=LC 65 Tryz.f65 [1,0,1,0,0,1,1,0,0,1,1,1,0,1,0] Qf 1 [(0,.v 112 (.ptr (some (p0,0)))),(2,.v 113 (.map (some p2))),(3,.v 113 (.map (some p3))),(5,.loc 5 0 0),(22,.v 22 (x22)),(23,iv n23),(24,iv n24),(42,.v 82 (x42)),(43,iv n43),(44,iv n44)] [(5,.whole 84 y5)] g
def L65_12(p0 p2 p3:Nat)(x22:Dat)(n23 n24:Int)(x61:Dat)(n62 n63:Int)(y5:Dat)(g:Glob)(Qf:OGP):=LC 65 Tryz.f65 [1,0,1,0,0,1,1,0,0,1,1,1,1,1,0] Qf 1 [(0,.v 112 (.ptr (some (p0,0)))),(2,.v 113 (.map (some p2))),(3,.v 113 (.map (some p3))),(5,.loc 5 0 0),(22,.v 22 (x22)),(23,iv n23),(24,iv n24),(61,.v 81 (x61)),(62,iv n62),(63,iv n63)] [(5,.whole 84 y5)] g
def L65_19(p0:Nat)(x85:Dat)(n86 n87:Int)(g:Glob)(Qf:OGP):=LC 65 Tryz.f65 [1,1,1,0] Qf 1 [(0,.v 112 (.ptr (some (p0,0)))),(85,.v 22 (x85)),(86,iv n86),(87,iv n87)] [] g
def L65_22(p0:Nat)(x85:Dat)(n86 n87:Int)(x92:Dat)(n93 n94:Int)(y11:Dat)(g:Glob)(Qf:OGP):=LC 65 Tryz.f65 [1,1,1,0,0,1,1,0,0,1,1,0] Qf 1 [(0,.v 112 (.ptr (some (p0,0)))),(11,.loc 11 0 0),(85,.v 22 (x85)),(86,iv n86),(87,iv n87),(92,.v 81 (x92)),(93,iv n93),(94,iv n94)] [(11,.whole 84 y11)] g
def L65_25(p0:Nat)(x85:Dat)(n86 n87:Int)(x92:Dat)(n93 n94:Int)(x99:Dat)(n100 n101:Int)(y11:Dat)(g:Glob)(Qf:OGP):=LC 65 Tryz.f65 [1,1,1,0,0,1,1,0,0,1,1,0,0,1,1,0,0,1,1,0] Qf 1 [(0,.v 112 (.ptr (some (p0,0)))),(11,.loc 11 0 0),(85,.v 22 (x85)),(86,iv n86),(87,iv n87),(92,.v 81 (x92)),(93,iv n93),(94,iv n94),(99,.v 59 (x99)),(100,iv n100),(101,iv n101)] [(11,.whole 84 y11)] g
def lo65:List CuI:=[⟨2,[K 0,K 2,K 3,K 22,K 23,K 24],[]⟩,⟨7,[K 0,K 2,K 3,K 5,K 22,K 23,K 24,K 42,K 43,K 44],[(5,.whole 84)]⟩,⟨12,[K 0,K 2,K 3,K 5,K 22,K 23,K 24,K 61,K 62,K 63],[(5,.whole 84)]⟩,⟨19,[K 0,K 85,K 86,K 87],[]⟩,⟨22,[K 0,K 11,K 85,K 86,K 87,K 92,K 93,K 94],[(11,.whole 84)]⟩,⟨25,[K 0,K 11,K 85,K 86,K 87,K 92,K 93,K 94,K 99,K 100,K 101],[(11,.whole 84)]⟩]
theorem w65
 (h:∃g',gmp (gmn g) g.boxes.length (.str [105,110,116]) (.int .i64 1)=some g'∧∃x,Ha TT 22 x∧GOk TT 22 (gmn g') p0 0 x∧L65_2 p0 g.boxes.length g'.boxes.length x ((elO x).length:Int) 0 (gmn g') Qf):
 EvF TT 65 [.ptr (some (p0,0))] g Qf:=
 sF Tryz.f65 lo65 [(112,.ptr (some (p0,0)))] ⟨tPt rfl,trivial⟩ h
theorem w65_2
 (h:Br (decide (n24<n23)) (InB n24 (elO x22).length∧∃n b,ML g (some p2) (.int .i64 0) (.str (strOf (fld (gtE (elO x22) n24) 0))) (.int .i64 n) b∧∃g',gmp g p2 (.str (strOf (fld (gtE (elO x22) n24) 0))) (.int .i64 (IntKind.i64.wrap (n+1)))=some g'∧∃n b,ML g' (some p2) (.int .i64 0) (.str (strOf (fld (gtE (elO x22) n24) 0))) (.int .i64 n) b∧EvF TT 109 [.bool (n==1),.int .i64 141,.int .i64 (intOf (fld (gtE (elO x22) n24) 3))] g' (KQ Qf λv g'=>Ret v []∧L65_7 p0 p2 p3 x22 n23 n24 (fld (gtE (elO x22) n24) 1) ((elO (fld (gtE (elO x22) n24) 1)).length:Int) 0 (gtE (elO x22) n24) g' Qf)) (∃x,Ha TT 22 x∧GOk TT 22 g p0 0 x∧L65_19 p0 x ((elO x).length:Int) 0 g Qf)):
 L65_2 p0 p2 p3 x22 n23 n24 g Qf:=sC lo65 h
theorem w65_7
 (h:Br (decide (n44<n43)) (InB n44 (elO x42).length∧InS 0 n44 (elO (fld y5 1)).length∧EvF TT 110 [sS 1 (fld y5 1) (elO (fld y5 1)) 0 n44,.str (strOf (fld (gtE (elO x42) n44) 0))] g (KQ Qf λv g'=>∃b,v=.d (.bool b)∧EvF TT 109 [.bool !b,.int .i64 141,.int .i64 (intOf (fld y5 3))] g' (KQ Qf λv g'=>Ret v []∧L65_7 p0 p2 p3 x22 n23 n24 x42 n43 (IntKind.i64.wrap (n44+1)) y5 g' Qf))) (L65_12 p0 p2 p3 x22 n23 n24 (fld y5 2) ((elO (fld y5 2)).length:Int) 0 y5 g Qf)):
 L65_7 p0 p2 p3 x22 n23 n24 x42 n43 n44 y5 g Qf:=sC lo65 h
theorem w65_12
 (h:Br (decide (n63<n62)) (InB n63 (elO x61).length∧∃n b,ML g (some p3) (.int .i64 0) (.str (strOf (fld (gtE (elO x61) n63) 0))) (.int .i64 n) b∧∃g',gmp g p3 (.str (strOf (fld (gtE (elO x61) n63) 0))) (.int .i64 (IntKind.i64.wrap (n+1)))=some g'∧∃n b,ML g' (some p3) (.int .i64 0) (.str (strOf (fld (gtE (elO x61) n63) 0))) (.int .i64 n) b∧EvF TT 109 [.bool (n==1),.int .i64 141,.int .i64 (intOf (fld y5 3))] g' (KQ Qf λv g'=>Ret v []∧L65_12 p0 p2 p3 x22 n23 n24 x61 n62 (IntKind.i64.wrap (n63+1)) y5 g' Qf)) (L65_2 p0 p2 p3 x22 n23 (IntKind.i64.wrap (n24+1)) g Qf)):
 L65_12 p0 p2 p3 x22 n23 n24 x61 n62 n63 y5 g Qf:=sC lo65 h
theorem w65_19
 (h:Br (decide (n87<n86)) (InB n87 (elO x85).length∧L65_22 p0 x85 n86 n87 (fld (gtE (elO x85) n87) 2) ((elO (fld (gtE (elO x85) n87) 2)).length:Int) 0 (gtE (elO x85) n87) g Qf) (Qf (.val (.tuple [])) g)):
 L65_19 p0 x85 n86 n87 g Qf:=sC lo65 h
theorem w65_22
 (h:Br (decide (n94<n93)) (InB n94 (elO x92).length∧L65_25 p0 x85 n86 n87 x92 n93 n94 (fld (gtE (elO x92) n94) 1) ((elO (fld (gtE (elO x92) n94) 1)).length:Int) 0 y11 g Qf) (L65_19 p0 x85 n86 (IntKind.i64.wrap (n87+1)) g Qf)):
 L65_22 p0 x85 n86 n87 x92 n93 n94 y11 g Qf:=sC lo65 h
theorem w65_25
 (h:Br (decide (n101<n100)) (InB n101 (elO x99).length∧EvF TT 111 [.ptr (some (p0,0)),gtE (elO x99) n101,y11] g (KQ Qf λv g'=>∃b,v=.d (.bool b)∧EvF TT 109 [.bool b,.int .i64 141,.int .i64 (intOf (fld y11 3))] g' (KQ Qf λv g'=>Ret v []∧L65_25 p0 x85 n86 n87 x92 n93 n94 x99 n100 (IntKind.i64.wrap (n101+1)) y11 g' Qf))) (L65_22 p0 x85 n86 n87 x92 n93 (IntKind.i64.wrap (n94+1)) y11 g Qf)):
 L65_25 p0 x85 n86 n87 x92 n93 n94 x99 n100 n101 y11 g Qf:=sC lo65 h
theorem w35(h0:Ha TT 28 x0)
 (h:EvF TT 63 [x0] (gne g [.int .i64 0,.int .i64 0]) (KQ Qf λv g'=>∃b,v=.d (.bool b)∧Br (!b) (Gu g' g.boxes.length 0 2∧∃x,Ha TT 35 x∧GOk TT 35 (gp g' g.boxes.length 0 (.agg [.int .i64 1,.int .i64 0])) g.boxes.length 0 x∧Qf (.val (.d x)) (gp g' g.boxes.length 0 (.agg [.int .i64 1,.int .i64 0]))) (EvF TT 37 [x0] g' λout g'=>Ou (λx=>Def TT [(64,[.ptr (some (g.boxes.length,0))])] [(35,g.boxes.length,0)] (some x) g' Qf) (λv=>∃x,Ha TT 22 x∧Rt v x∧EvF TT 65 [.ptr (some ((gmn g').boxes.length,0))] (gne (gmn g') [x,Dat.map (some g'.boxes.length)]) λout g'_1=>Ou (λx=>Def TT [(64,[.ptr (some (g.boxes.length,0))])] [(35,g.boxes.length,0)] (some x) g'_1 Qf) (λv=>Ret v []∧EvF TT 66 [.ptr (some ((gmn g').boxes.length,0)),sub x0 1 7] g'_1 λout g'=>Ou (λx=>Def TT [(64,[.ptr (some (g.boxes.length,0))])] [(35,g.boxes.length,0)] (some x) g' Qf) (λv=>Ret v []∧Gu g' g.boxes.length 0 2∧Def TT [(64,[.ptr (some (g.boxes.length,0))])] [(35,g.boxes.length,0)] none (gp g' g.boxes.length 0 (.agg [.int .i64 0,.int .i64 0])) Qf) out) out) out))):
 EvF TT 35 [x0] g Qf:=
 sF Tryz.f35 [] [(28,x0)] ⟨h0,trivial⟩ h
def L56_2(x0:Dat)(s1:List UInt8)(n5:Int)(g:Glob)(Qf:OGP):=LC 56 Tryz.f56 [1,0,1,0] Qf 2 [(0,.v 22 (x0)),(1,.v 9 (.str s1)),(5,iv n5)] [] g
def lo56:List CuI:=[⟨2,[K 0,K 1,K 5],[]⟩]
theorem w56(h0:Ha TT 22 x0)(h1:s1.length≤2^40)
 (h:L56_2 x0 s1 0 g Qf):
 EvF TT 56 [x0,.str s1] g Qf:=
 sF Tryz.f56 lo56 [(22,x0),(9,.str s1)] ⟨h0,tyt rfl h1,trivial⟩ h
theorem w56_2
 (h:Br (decide (n5<((elO x0).length:Int))) (InB n5 (elO x0).length∧Br (strOf (fld (gtE (elO x0) n5) 0)==s1) (Qf (.val (.d (.int .i64 n5))) g) (L56_2 x0 s1 (IntKind.i64.wrap (n5+1)) g Qf)) (Qf (.val (.d (.int .i64 (-1)))) g)):
 L56_2 x0 s1 n5 g Qf:=sC lo56 h
def L53_5(x0:Dat)(n1 n6:Int)(y5:Dat)(g:Glob)(Qf:OGP):=LC 53 Tryz.f53 [1,1,1,0,1,0] Qf 2 [(0,.v 22 (x0)),(1,iv n1),(5,.loc 5 0 0),(6,iv n6)] [(5,.whole 84 y5)] g
def L53_10(x0:Dat)(n1 n7:Int)(y5:Dat)(g:Glob)(Qf:OGP):=LC 53 Tryz.f53 [1,1,1,1,0,1,0] Qf 2 [(0,.v 22 (x0)),(1,iv n1),(5,.loc 5 0 0),(7,iv n7)] [(5,.whole 84 y5)] g
def L53_16(x0:Dat)(n1 n7 n11:Int)(y5:Dat)(g:Glob)(Qf:OGP):=LC 53 Tryz.f53 [1,1,1,1,0,1,0,0,1,0,0,1,1,0] Qf 2 [(0,.v 22 (x0)),(1,iv n1),(5,.loc 5 0 0),(7,iv n7),(11,iv n11)] [(5,.whole 84 y5)] g
def lo53:List CuI:=[⟨5,[K 0,K 1,K 5,K 6],[(5,.whole 84)]⟩,⟨10,[K 0,K 1,K 5,K 7],[(5,.whole 84)]⟩,⟨16,[K 0,K 1,K 5,K 7,K 11],[(5,.whole 84)]⟩]
theorem w53(h0:Ha TT 22 x0)
 (h:InB n1 (elO x0).length∧Br (strOf (fld (gtE (elO x0) n1) 0)==[105,110,116]) (Qf (.val (.d (.bool true))) g) (InS 0 n1 (elO x0).length∧EvF TT 56 [sS 4 x0 (elO x0) 0 n1,.str (strOf (fld (gtE (elO x0) n1) 0))] g (KQ Qf λv g'=>∃n,v=.d (.int .i64 n)∧Br (decide (0≤n)) (Qf (.val (.d (.bool true))) g') (L53_5 x0 n1 0 (gtE (elO x0) n1) g' Qf)))):
 EvF TT 53 [x0,.int .i64 n1] g Qf:=
 sF Tryz.f53 lo53 [(22,x0),(3,.int .i64 n1)] ⟨h0,tyI rfl,trivial⟩ h
theorem w53_5
 (h:Br (decide (n6<((elO (fld y5 1)).length:Int))) (InS 0 n6 (elO (fld y5 1)).length∧InB n6 (elO (fld y5 1)).length∧EvF TT 89 [sS 1 (fld y5 1) (elO (fld y5 1)) 0 n6,.str (strOf (fld (gtE (elO (fld y5 1)) n6) 0))] g (KQ Qf λv g'=>∃b,v=.d (.bool b)∧Br b (Qf (.val (.d (.bool true))) g') (L53_5 x0 n1 (IntKind.i64.wrap (n6+1)) y5 g' Qf))) (L53_10 x0 n1 0 y5 g Qf)):
 L53_5 x0 n1 n6 y5 g Qf:=sC lo53 h
theorem w53_10
 (h:Br (decide (n7<((elO (fld y5 2)).length:Int))) (InS 0 n1 (elO x0).length∧InB n7 (elO (fld y5 2)).length∧EvF TT 50 [sS 4 x0 (elO x0) 0 n1,.str (strOf (fld (gtE (elO (fld y5 2)) n7) 0))] g (KQ Qf λv g'=>∃n n_1 b,Ret v [.int .i64 n,.int .i64 n_1,.bool b]∧Br b (Qf (.val (.d (.bool true))) g') (L53_16 x0 n1 n7 0 y5 g' Qf))) (Qf (.val (.d (.bool false))) g)):
 L53_10 x0 n1 n7 y5 g Qf:=sC lo53 h
theorem w53_16
 (h:Br (decide (n11<n7)) (InB n11 (elO (fld y5 2)).length∧InB n7 (elO (fld y5 2)).length∧Br (strOf (fld (gtE (elO (fld y5 2)) n11) 0)==strOf (fld (gtE (elO (fld y5 2)) n7) 0)) (Qf (.val (.d (.bool true))) g) (L53_16 x0 n1 n7 (IntKind.i64.wrap (n11+1)) y5 g Qf)) (L53_10 x0 n1 (IntKind.i64.wrap (n7+1)) y5 g Qf)):
 L53_16 x0 n1 n7 n11 y5 g Qf:=sC lo53 h
def L54_9(x0 x1:Dat)(n8:Int)(y5:Dat)(g:Glob)(Qf:OGP):=LC 54 Tryz.f54 [1,1,0,1,0] Qf 3 [(0,.v 22 (x0)),(1,.v 82 (x1)),(5,.loc 5 0 0),(8,iv n8)] [(5,.whole 61 y5)] g
def lo54:List CuI:=[⟨9,[K 0,K 1,K 5,K 8],[(5,.whole 61)]⟩]
theorem w54(h0:Ha TT 22 x0)(h1:Ha TT 82 x1)(h2:Ha TT 61 x2)
 (h:Br (intOf (fld x2 0)==2) (EvF TT 89 [x1,.str (strOf (fld x2 1))] g (KQ Qf λv g'=>∃b,v=.d (.bool b)∧Qf (.val (.d (.bool b))) g')) (Br (intOf (fld x2 0)==4) (EvF TT 56 [x0,.str (strOf (fld x2 1))] g (KQ Qf λv g'=>∃n,v=.d (.int .i64 n)∧Br (decide (n<0)) (Qf (.val (.d (.bool false))) g') (InB n (elO x0).length∧Br (((elO (fld (gtE (elO x0) n) 1)).length:Int)!=((elO (fld x2 3)).length:Int)) (Qf (.val (.d (.bool false))) g') (L54_9 x0 x1 0 x2 g' Qf)))) (L54_9 x0 x1 0 x2 g Qf))):
 EvF TT 54 [x0,x1,x2] g Qf:=
 sF Tryz.f54 lo54 [(22,x0),(82,x1),(61,x2)] ⟨h0,h1,h2,trivial⟩ h
theorem w54_9
 (h:Br (decide (n8<((elO (fld y5 3)).length:Int))) (InB n8 (elO (fld y5 3)).length∧EvF TT 54 [x0,x1,gtE (elO (fld y5 3)) n8] g (KQ Qf λv g'=>∃b,v=.d (.bool b)∧Br (!b) (Qf (.val (.d (.bool false))) g') (L54_9 x0 x1 (IntKind.i64.wrap (n8+1)) y5 g' Qf))) (Qf (.val (.d (.bool true))) g)):
 L54_9 x0 x1 n8 y5 g Qf:=sC lo54 h
theorem w90
 (h:∃n,GOk TT 3 g p0 2 (.int .i64 n)∧Br (n==0) (Gu g p0 2 1∧Gu (gp g p0 2 (.int .i64 140)) p0 1 [3].length∧Qf (.val (.tuple [])) (gp (gp g p0 2 (.int .i64 140)) p0 1 (.int .i64 n1))) (Qf (.val (.tuple [])) g)):
 EvF TT 90 [.ptr (some (p0,0)),.int .i64 n1] g Qf:=
 sF Tryz.f90 [] [(97,.ptr (some (p0,0))),(3,.int .i64 n1)] ⟨tPt rfl,tyI rfl,trivial⟩ h
theorem w93(h1:s1.length≤2^40)
 (h:∃x,Ha TT 22 x∧GOk TT 22 g p0 0 x∧EvF TT 50 [x,.str s1] g (KQ Qf λv g'=>∃n n_1 b,Ret v [.int .i64 n,.int .i64 n_1,.bool b]∧Br (!b) (EvF TT 90 [.ptr (some (p0,0)),.int .i64 n3] g' (KQ Qf λv g'=>Ret v []∧Qf (.val (.tuple [])) g')) (∃x,Ha TT 22 x∧GOk TT 22 g' p0 0 x∧InB n (elO x).length∧InB n_1 (elO (fld (gtE (elO x) n) 2)).length∧Br (((elO (fld (gtE (elO (fld (gtE (elO x) n) 2)) n_1) 1)).length:Int)!=n2) (EvF TT 90 [.ptr (some (p0,0)),.int .i64 n3] g' (KQ Qf λv g'=>Ret v []∧Qf (.val (.tuple [])) g')) (Qf (.val (.tuple [])) g')))):
 EvF TT 93 [.ptr (some (p0,0)),.str s1,.int .i64 n2,.int .i64 n3] g Qf:=
 sF Tryz.f93 [] [(97,.ptr (some (p0,0))),(9,.str s1),(3,.int .i64 n2),(3,.int .i64 n3)] ⟨tPt rfl,tyt rfl h1,tyI rfl,tyI rfl,trivial⟩ h
def L92_11(p0:Nat)(x2:Dat)(n7:Int)(y4:Dat)(g:Glob)(Qf:OGP):=LC 92 Tryz.f92 [1,1,1,0,1,0] Qf 3 [(0,.v 97 (.ptr (some (p0,0)))),(2,.v 82 (x2)),(4,.loc 4 0 0),(7,iv n7)] [(4,.whole 52 y4)] g
def lo92:List CuI:=[⟨11,[K 0,K 2,K 4,K 7],[(4,.whole 52)]⟩]
theorem w92(h1:Ha TT 52 x1)(h2:Ha TT 82 x2)
 (h:∃n,GOk TT 3 g p0 2 (.int .i64 n)∧Br (n !=0) (∀(v:Val),Rt v x2→Qf (.val v) g) (Br (intOf (fld x1 0)==2) (EvF TT 89 [x2,.str (strOf (fld x1 1))] g (KQ Qf λv g'=>∃b,v=.d (.bool b)∧Br b (EvF TT 90 [.ptr (some (p0,0)),.int .i64 (intOf (fld x1 4))] g' (KQ Qf λv g'=>Ret v []∧Fits ((elO x2).length+[Dat.str (strOf (fld x1 1))].length) 16∧∃r g'_1,gpp 1 x2 [.str (strOf (fld x1 1))] (gto g' 1 1)=some (r,g'_1)∧∀(v:Val),Rt v r→Qf (.val v) g'_1)) (Fits ((elO x2).length+[Dat.str (strOf (fld x1 1))].length) 16∧∃r g'_1,gpp 1 x2 [.str (strOf (fld x1 1))] (gto g' 1 1)=some (r,g'_1)∧∀(v:Val),Rt v r→Qf (.val v) g'_1))) (Br (intOf (fld x1 0)==4) (EvF TT 93 [.ptr (some (p0,0)),.str (strOf (fld x1 1)),.int .i64 ((elO (fld x1 3)).length:Int),.int .i64 (intOf (fld x1 4))] g (KQ Qf λv g'=>Ret v []∧L92_11 p0 x2 0 x1 g' Qf)) (L92_11 p0 x2 0 x1 g Qf)))):
 EvF TT 92 [.ptr (some (p0,0)),x1,x2] g Qf:=
 sF Tryz.f92 lo92 [(97,.ptr (some (p0,0))),(52,x1),(82,x2)] ⟨tPt rfl,h1,h2,trivial⟩ h
theorem w92_11
 (h:Br (decide (n7<((elO (fld y4 3)).length:Int))) (InB n7 (elO (fld y4 3)).length∧EvF TT 92 [.ptr (some (p0,0)),gtE (elO (fld y4 3)) n7,x2] g (KQ Qf λv g'=>∃x,Ha TT 82 x∧Rt v x∧L92_11 p0 x (IntKind.i64.wrap (n7+1)) y4 g' Qf)) (∀(v:Val),Rt v x2→Qf (.val v) g)):
 L92_11 p0 x2 n7 y4 g Qf:=sC lo92 h
def L55_23(p0:Nat)(x2:Dat)(n6:Int)(y4:Dat)(g:Glob)(Qf:OGP):=LC 55 Tryz.f55 [1,1,1,0,1,1,1,1,1,1,1,1,1,0,1,1,0] Qf 3 [(0,.v 97 (.ptr (some (p0,0)))),(2,.v 82 (x2)),(4,.loc 4 0 0),(6,iv n6)] [(4,.whole 26 y4)] g
def L55_6(p0:Nat)(x2:Dat)(n8:Int)(y4:Dat)(g:Glob)(Qf:OGP):=LC 55 Tryz.f55 [1,1,1,0,1,1,1,1,1,1,1,1,1,1,1,1,0] Qf 3 [(0,.v 97 (.ptr (some (p0,0)))),(2,.v 82 (x2)),(4,.loc 4 0 0),(8,iv n8)] [(4,.whole 26 y4)] g
def lo55:List CuI:=[⟨23,[K 0,K 2,K 4,K 6],[(4,.whole 26)]⟩,⟨6,[K 0,K 2,K 4,K 8],[(4,.whole 26)]⟩]
theorem w55(h1:Ha TT 26 x1)(h2:Ha TT 82 x2)
 (h:∃n,GOk TT 3 g p0 2 (.int .i64 n)∧Br (n !=0) (Qf (.val (.tuple [])) g) (Br (intOf (fld x1 0)==1) (EvF TT 89 [x2,.str (strOf (fld x1 1))] g (KQ Qf λv g'=>∃b,v=.d (.bool b)∧Br (!b) (EvF TT 90 [.ptr (some (p0,0)),.int .i64 (intOf (fld x1 6))] g' (KQ Qf λv g'=>Ret v []∧Qf (.val (.tuple [])) g')) (Qf (.val (.tuple [])) g'))) (Br (intOf (fld x1 0)==3) (InB 0 (elO (fld x1 4)).length∧EvF TT 91 [x2,.sl 1 [.str (strOf (fld x1 1))]] g (KQ Qf λv g'=>∃x,Ha TT 82 x∧Rt v x∧EvF TT 55 [.ptr (some (p0,0)),gtE (elO (fld x1 4)) 0,x] g' (KQ Qf λv g'=>Ret v []∧Qf (.val (.tuple [])) g'))) (Br (intOf (fld x1 0)==5) (InB 0 (elO (fld x1 4)).length∧EvF TT 55 [.ptr (some (p0,0)),gtE (elO (fld x1 4)) 0,x2] g (KQ Qf λv g'=>Ret v []∧InB 1 (elO (fld x1 4)).length∧EvF TT 91 [x2,.sl 1 [.str (strOf (fld x1 1))]] g' (KQ Qf λv g'=>∃x,Ha TT 82 x∧Rt v x∧EvF TT 55 [.ptr (some (p0,0)),gtE (elO (fld x1 4)) 1,x] g' (KQ Qf λv g'=>Ret v []∧Qf (.val (.tuple [])) g')))) (Br (intOf (fld x1 0)==6) (InB 0 (elO (fld x1 4)).length∧EvF TT 91 [x2,.sl 1 [.str (strOf (fld x1 1)),.str (strOf (fld x1 2))]] g (KQ Qf λv g'=>∃x,Ha TT 82 x∧Rt v x∧EvF TT 55 [.ptr (some (p0,0)),gtE (elO (fld x1 4)) 0,x] g' (KQ Qf λv g'=>Ret v []∧InB 1 (elO (fld x1 4)).length∧EvF TT 91 [x2,.sl 1 [.str (strOf (fld x1 1))]] g' (KQ Qf λv g'=>∃x,Ha TT 82 x∧Rt v x∧EvF TT 55 [.ptr (some (p0,0)),gtE (elO (fld x1 4)) 1,x] g' (KQ Qf λv g'=>Ret v []∧Qf (.val (.tuple [])) g'))))) (Br (intOf (fld x1 0)==7) (InB 0 (elO (fld x1 4)).length∧EvF TT 55 [.ptr (some (p0,0)),gtE (elO (fld x1 4)) 0,x2] g (KQ Qf λv g'=>Ret v []∧L55_23 p0 x2 0 x1 g' Qf)) (Br (intOf (fld x1 0)==8) (EvF TT 93 [.ptr (some (p0,0)),.str (strOf (fld x1 1)),.int .i64 ((elO (fld x1 4)).length:Int),.int .i64 (intOf (fld x1 6))] g (KQ Qf λv g'=>Ret v []∧L55_6 p0 x2 0 x1 g' Qf)) (L55_6 p0 x2 0 x1 g Qf)))))))):
 EvF TT 55 [.ptr (some (p0,0)),x1,x2] g Qf:=
 sF Tryz.f55 lo55 [(97,.ptr (some (p0,0))),(26,x1),(82,x2)] ⟨tPt rfl,h1,h2,trivial⟩ h
theorem w55_23
 (h:Br (decide (n6<((elO (fld y4 5)).length:Int))) (InB n6 (elO (fld y4 5)).length∧EvF TT 92 [.ptr (some (p0,0)),gtE (elO (fld y4 5)) n6,.nil] g (KQ Qf λv g'=>∃x,Ha TT 82 x∧Rt v x∧InB (IntKind.i64.wrap (n6+1)) (elO (fld y4 4)).length∧EvF TT 91 [x2,x] g' (KQ Qf λv g'=>∃x,Ha TT 82 x∧Rt v x∧EvF TT 55 [.ptr (some (p0,0)),gtE (elO (fld y4 4)) (IntKind.i64.wrap (n6+1)),x] g' (KQ Qf λv g'=>Ret v []∧L55_23 p0 x2 (IntKind.i64.wrap (n6+1)) y4 g' Qf)))) (Qf (.val (.tuple [])) g)):
 L55_23 p0 x2 n6 y4 g Qf:=sC lo55 h
theorem w55_6
 (h:Br (decide (n8<((elO (fld y4 4)).length:Int))) (InB n8 (elO (fld y4 4)).length∧EvF TT 55 [.ptr (some (p0,0)),gtE (elO (fld y4 4)) n8,x2] g (KQ Qf λv g'=>Ret v []∧L55_6 p0 x2 (IntKind.i64.wrap (n8+1)) y4 g' Qf)) (Qf (.val (.tuple [])) g)):
 L55_6 p0 x2 n8 y4 g Qf:=sC lo55 h
def L28_5(x4:Dat)(n5:Int)(y1:Dat)(g:Glob)(Qf:OGP):=LC 28 Tryz.f28 [1,1,1,0,1,0] Qf 1 [(1,.loc 1 0 0),(4,.v 22 (x4)),(5,iv n5)] [(1,.whole 28 y1)] g
def L28_10(x4:Dat)(n6:Int)(y1:Dat)(g:Glob)(Qf:OGP):=LC 28 Tryz.f28 [1,1,1,1,0,1,0] Qf 1 [(1,.loc 1 0 0),(4,.v 22 (x4)),(6,iv n6)] [(1,.whole 28 y1)] g
def L28_13(x4:Dat)(n6 n7:Int)(y1:Dat)(g:Glob)(Qf:OGP):=LC 28 Tryz.f28 [1,1,1,1,0,1,0,0,1,0,0,1,0] Qf 1 [(1,.loc 1 0 0),(4,.v 22 (x4)),(6,iv n6),(7,iv n7)] [(1,.whole 28 y1)] g
def L28_16(x4:Dat)(n6 n7 n8:Int)(y1:Dat)(g:Glob)(Qf:OGP):=LC 28 Tryz.f28 [1,1,1,1,0,1,0,0,1,0,0,1,0,0,1,0,0,1,0] Qf 1 [(1,.loc 1 0 0),(4,.v 22 (x4)),(6,iv n6),(7,iv n7),(8,iv n8)] [(1,.whole 28 y1)] g
def lo28:List CuI:=[⟨5,[K 1,K 4,K 5],[(1,.whole 28)]⟩,⟨10,[K 1,K 4,K 6],[(1,.whole 28)]⟩,⟨13,[K 1,K 4,K 6,K 7],[(1,.whole 28)]⟩,⟨16,[K 1,K 4,K 6,K 7,K 8],[(1,.whole 28)]⟩]
theorem w28(h0:Ha TT 28 x0)
 (h:EvF TT 52 [x0] g (KQ Qf λv g'=>∃b,v=.d (.bool b)∧Br (!b) (Qf (.val (.tuple [.d (.int .i64 1),.d (.int .i64 0)])) g') (EvF TT 15 [x0] g' (KQ Qf λv g'=>∃x,Ha TT 22 x∧Rt v x∧L28_5 x 3 x0 g' Qf)))):
 EvF TT 28 [x0] g Qf:=
 sF Tryz.f28 lo28 [(28,x0)] ⟨h0,trivial⟩ h
theorem w28_5
 (h:Br (decide (n5<((elO x4).length:Int))) (EvF TT 53 [x4,.int .i64 n5] g (KQ Qf λv g'=>∃b,v=.d (.bool b)∧Br b (InB n5 (elO x4).length∧Qf (.val (.tuple [.d (.int .i64 141),.d (.int .i64 (intOf (fld (gtE (elO x4) n5) 3)))])) g') (L28_5 x4 (IntKind.i64.wrap (n5+1)) y1 g' Qf))) (L28_10 x4 3 y1 g Qf)):
 L28_5 x4 n5 y1 g Qf:=sC lo28 h
theorem w28_10
 (h:Br (decide (n6<((elO x4).length:Int))) (L28_13 x4 n6 0 y1 g Qf) (EvF TT 55 [.ptr (some (g.boxes.length,0)),sub y1 1 7,.nil] (gne g [x4,.int .i64 (intOf (.int .i64 0)),.int .i64 (intOf (.int .i64 0))]) (KQ Qf λv g'=>Ret v []∧∃n,GOk TT 3 g' g.boxes.length 2 (.int .i64 n)∧∃n_1,GOk TT 3 g' g.boxes.length 1 (.int .i64 n_1)∧Qf (.val (.tuple [.d (.int .i64 n),.d (.int .i64 n_1)])) g'))):
 L28_10 x4 n6 y1 g Qf:=sC lo28 h
theorem w28_13
 (h:InB n6 (elO x4).length∧Br (decide (n7<((elO (fld (gtE (elO x4) n6) 2)).length:Int))) (L28_16 x4 n6 n7 0 y1 g Qf) (L28_10 x4 (IntKind.i64.wrap (n6+1)) y1 g Qf)):
 L28_13 x4 n6 n7 y1 g Qf:=sC lo28 h
theorem w28_16
 (h:InB n6 (elO x4).length∧InB n7 (elO (fld (gtE (elO x4) n6) 2)).length∧Br (decide (n8<((elO (fld (gtE (elO (fld (gtE (elO x4) n6) 2)) n7) 1)).length:Int))) (InB n6 (elO x4).length∧InB n6 (elO x4).length∧InB n7 (elO (fld (gtE (elO x4) n6) 2)).length∧InB n8 (elO (fld (gtE (elO (fld (gtE (elO x4) n6) 2)) n7) 1)).length∧EvF TT 54 [x4,fld (gtE (elO x4) n6) 1,gtE (elO (fld (gtE (elO (fld (gtE (elO x4) n6) 2)) n7) 1)) n8] g (KQ Qf λv g'=>∃b,v=.d (.bool b)∧Br (!b) (InB n6 (elO x4).length∧Qf (.val (.tuple [.d (.int .i64 141),.d (.int .i64 (intOf (fld (gtE (elO x4) n6) 3)))])) g') (L28_16 x4 n6 n7 (IntKind.i64.wrap (n8+1)) y1 g' Qf))) (L28_13 x4 n6 (IntKind.i64.wrap (n7+1)) y1 g Qf)):
 L28_16 x4 n6 n7 n8 y1 g Qf:=sC lo28 h
end Go.Proofs.YtiheejdkkjfenaaGreatDoor.Pa
namespace Go.Proofs.YtiheejdkkjfenaaGreatDoor.Pa
open Go Go.Proofs.YtiheejdkkjfenaaGreatDoor.Am
def flD(c p:Int):Dat:=.iface 111 (.agg [.int .i64 c,.int .i64 p])
theorem wat{b:Bool}{c p:Int}{g:Glob}{Qf:OGP}(hF:b=false→Qf (.panic (flD c p)) g)(hT:b=true→Qf (.val (.tuple [])) g):EvF TT 109 [.bool b,.int .i64 c,.int .i64 p] g Qf:=
 w109 (Bi.2 ⟨λq=>hF (by simpa using q),λq=>hT (by simpa using q)⟩)
theorem sCo{x:Dat}{l:List Str}{s:Str}{g:Glob}{Qf:OGP}(hx:Ha TT 82 x)(hl:elO x=l.map .str)(hs:s.length≤2^40)(hQ:Qf (.val (.d (.bool (l.contains s)))) g):EvF TT 110 [x,.str s] g Qf:=by
 have hn:l.length≤2^40:=by have:=(hx.els uS).1.1;rw[elL hl] at this;exact this
 refine w110 hx hs (w180 hx hs ?_);rw[elL hl];refine lU (len:=l.length) (λi=>Qf (.val (.d (.bool ((l.drop i).contains s)))) g→L180_2 x s (l.length:Int) (i:Int) g _) ?_ ?_ 0 (Nat.zero_le _) hQ
 ·intro hQ;refine w180_2 ?_;rw[Bg];rw[List.drop_length] at hQ;exact⟨_,rfl,hQ⟩
 ·intro i hi ih hQ;refine w180_2 ?_;rw[Bl hi,srA hl hi,elL hl];rw[List.drop_eq_getElem_cons hi,List.contains_cons] at hQ;refine⟨inB hi,Bi.2 ⟨λq=>⟨_,rfl,bca hQ ?_⟩,λq=>?_⟩⟩
  ·rw[q,Bool.true_or,decide_eq_true (by omega)]
  ·rw[q,Bool.false_or] at hQ;rw[wra (by omega)];exact ih hQ
theorem gew(g:Glob)(ds:List Dat){j:Nat}{bx:GBo}(h:g.boxes[j]?=some bx):(gne g ds).boxes[j]?=some bx:=by
 rw[gno _ (List.getElem?_eq_some_iff.1 h).1];exact h
theorem Kp.at{bx:List Nat}{b:Nat}{g g':Glob}(h:Kp bx b g g'){j:Nat}{x:GBo}(hj:g.boxes[j]?=some x)(hx:j ∉ bx):g'.boxes[j]?=some x:=by
 rw[h.box j (List.getElem?_eq_some_iff.1 hj).1 hx];exact hj
structure DL(D:Dat)(l:List Dc):Prop where
 ty:Ha TT 22 D
 abs:(elO D).map abD=l
theorem DL.len{D:Dat}{l:List Dc}(h:DL D l):(elO D).length=l.length:=by rw[←h.abs,List.length_map]
theorem DL.get{D:Dat}{l:List Dc}(h:DL D l){i:Nat}(hi:i<l.length):∃s a b p,gtE (elO D) (i:Int)=.agg [.str s,a,b,.int .i64 p]∧s.length≤2^40∧Ha TT 82 a∧Ha TT 81 b∧l[i]=⟨s,(elO a).map strOf,(elO b).map aC,p⟩:=by
 have hi':i<(elO D).length:=by rw[h.len];exact hi
 obtain⟨s,a,b,p,e,hs,ha,hb⟩:=det ((h.ty.els uD).2 _ (List.getElem_mem hi'));refine⟨s,a,b,p,by rw[geE hi',e],hs,ha,hb,?_⟩;have h2:l[i]=abD (elO D)[i]:=by
  have:=h.abs;subst this;rw[List.getElem_map]
 rw[h2,e];rfl
theorem uy:∃d,TT.und 61=some d∧ig d=true:=isA (by kernel_rfl)
theorem unD:∃d,TT.und 84=some d∧ig d=true:=isA (by kernel_rfl)
theorem siI:TT.size 3=some 1:=by kernel_rfl
theorem szr:TT.size 9=some 1:=by kernel_rfl
theorem sD:TT.size 22=some 1:=by kernel_rfl
theorem siy:TT.size 59=some 1:=by kernel_rfl
theorem stE{a:Dat}(h:Ha TT 82 a):elO a=((elO a).map strOf).map .str:=by
 obtain⟨l,e,_⟩:=sti h;have:(l.map Dat.str).map strOf=l:=by rw[List.map_map];exact List.map_id'' (λ_=>rfl) l
 rw[e,this]
theorem cog{f:FuncId}{c:List Dat}{p:Dat→Bool}{x:Dat}{g:Glob}{Qf:OGP}{P:Glob→Prop}(hx:Ha TT 59 x)
 (hf:∀y∈elO x,∀g,P g→∀Q:Out→Glob→Prop,(∀g',P g'→Q (.val (.d (.bool (p y)))) g')→EvF TT f (y::c) g Q) (hP:P g) (hQ:∀g',P g'→Qf (.val (.d (.bool ((elO x).any p)))) g'):EvF TT 177 [x,.clo f c] g Qf:=by
 have exl:=lel uT hx;refine w177 hx (w213 hx ?_);refine lU (len:=(elO x).length) (λi=>∀g,P g→(∀g',P g'→Qf (.val (.d (.bool (((elO x).drop i).any p)))) g')→L213_2 x f c ((elO x).length:Int) (i:Int) g _) ?_ ?_ 0 (Nat.zero_le _) g hP hQ
 ·intro g hP hQ;refine w213_2 ?_;rw[Bg];rw[List.drop_length] at hQ;exact⟨_,rfl,hQ g hP⟩
 ·intro i hi ih g hP hQ;refine w213_2 ?_;rw[Bl hi,geE hi];rw[List.drop_eq_getElem_cons hi,List.any_cons] at hQ;refine⟨inB hi,hf _ (List.getElem_mem hi) g hP _ λg' hP'=>⟨_,rfl,Bi.2 ⟨λq=>?_,λq=>?_⟩⟩⟩
  ·rw[q] at hQ;refine⟨_,rfl,bca (hQ g' hP') ?_⟩;rw[Bool.true_or,decide_eq_true (by omega)]
  ·rw[q] at hQ;rw[wra (by omega)];exact ih g' hP' hQ
theorem inx{f:FuncId}{c:List Dat}{D:Dat}{l:List Dc}{s:Str}{g:Glob}{Qf:OGP}(hD:DL D l)(hf:∀y∈elO D,∀Q:Out→Glob→Prop,Q (.val (.d (.bool ((abD y).s==s)))) g→EvF TT f (y::c) g Q)
 (hQ:Qf (.val (.d (.int .i64 (dI s l 0)))) g):EvF TT 175 [D,.clo f c] g Qf:=by
 have exl:=lel uD hD.ty;refine w175 hD.ty ?_;have e:l=((elO D).drop 0).map abD:=by rw[List.drop_zero,hD.abs]
 rw[e] at hQ;refine lU (len:=(elO D).length) (λi=>Qf (.val (.d (.int .i64 (dI s (((elO D).drop i).map abD) (i:Int))))) g→L175_2 D f c ((elO D).length:Int) (i:Int) g Qf) ?_ ?_ 0 (Nat.zero_le _) hQ
 ·intro hQ;refine w175_2 ?_;rw[Bg];rw[List.drop_length] at hQ;exact hQ
 ·intro i hi ih hQ;refine w175_2 ?_;rw[Bl hi,geE hi];rw[List.drop_eq_getElem_cons hi,List.map_cons] at hQ;unfold dI at hQ;refine⟨inB hi,hf _ (List.getElem_mem hi) _ ⟨_,rfl,Bi.2 ⟨λq=>?_,λq=>?_⟩⟩⟩
  ·rw[q] at hQ;exact hQ
  ·rw[q] at hQ;rw[wra (by omega)];refine ih ?_;simp only[cond_false] at hQ;exact hQ
theorem tpd:∀(n:Nat) {x d D:Dat} {l:List Dc} {p mb:Nat} {ps:List Str} {g:Glob} {Qf:OGP},SizeOf.sizeOf x<n→Ha TT 61 x→Ha TT 84 d→elO (fld d 1)=ps.map .str→DL D l→SB g p mb D→
 (∀g',Kp [] g.toks.length g g'→Qf (.val (.d (.bool (tyd l ps (aT x))))) g')→EvF TT 111 [.ptr (some (p,0)),x,d] g Qf
 |0,x,d,D,l,p,mb,ps,g,Qf,hsz,_,_,_,_,_,_=>by omega
 |n+1,x,d,D,l,p,mb,ps,g,Qf,hsz,hx,hd,hps,hD,hb,hQ=>by
  obtain⟨k1,s1,v1,a1,rfl,hs1,t1⟩:=tpe hx;obtain⟨s2,a2,b2,p2,rfl,hs2,ha2,hb2⟩:=det hd;have ex:=t1.els uT;have exl:=ex.1.1;have hc:=sO (cs:=[.int .i64 k1,.str s1,.int .i64 v1,a1]) (c:=a1) (by simp);have hps:elO a2=ps.map .str:=hps;have e1:tyd l ps (aT (.agg [.int .i64 k1,.str s1,.int .i64 v1,a1]))=(bif k1==2 then ps.contains s1 else bif k1==4 then(match dcP s1 l with|none=>false|some m=>m==(elO a1).length&&tye l ps ((elO a1).map aT)) else tye l ps ((elO a1).map aT)):=by
   simp only[aT,tyd,ay,List.length_map]
   all_goals rfl
  rw[e1] at hQ;refine w111 hx hd ?_;generalize hg1:gne g [Dat.ptr (some (p,0))]=g1;show L111_1 g.boxes.length g1.boxes.length (gne g1 [Dat.int IntKind.i64 k1,Dat.str s1,Dat.int IntKind.i64 v1,a1]).boxes.length (gne (gne g1 [Dat.int IntKind.i64 k1,Dat.str s1,Dat.int IntKind.i64 v1,a1]) [Dat.str s2,a2,b2,Dat.int IntKind.i64 p2]) Qf;generalize hg2:gne g1 [Dat.int IntKind.i64 k1,Dat.str s1,Dat.int IntKind.i64 v1,a1]=g2;generalize hg3:gne g2 [Dat.str s2,a2,b2,Dat.int IntKind.i64 p2]=g3;have b3:g3.boxes[g.boxes.length]?=some (.cells [.d (.ptr (some (p,0)))]):=by
   rw[←hg3];refine gew _ _ ?_;rw[←hg2];refine gew _ _ ?_;rw[←hg1];exact gnw _ _
  have b4:g3.boxes[g1.boxes.length]?=some (.cells [.d (.int .i64 k1),.d (.str s1),.d (.int .i64 v1),.d a1]):=by
   rw[←hg3];refine gew _ _ ?_;rw[←hg2];exact gnw _ _
  have b5:g3.boxes[g2.boxes.length]?=some (.cells ([Dat.str s2,a2,b2,.int .i64 p2].map .d)):=by
   rw[←hg3];exact gnw _ _
  have b0:SB g3 p mb D:=by
   unfold SB;rw[←hg3];refine gew _ _ ?_;rw[←hg2];refine gew _ _ ?_;rw[←hg1];exact gew _ _ hb
  have kp:Kp [] g.toks.length g g3:=by
   rw[←hg3,←hg2,←hg1];exact((kw _ _ _).trans (kw _ _ _)).trans (kw _ _ _)
  have ht3:g3.toks=g.toks:=by rw[←hg3,←hg2,←hg1];rfl
  obtain⟨td,htu,hta⟩:=uy;obtain⟨dd,hdu,hda⟩:=unD
  -- the arguments
  have L8:(∀g',Kp [] g.toks.length g g'→Qf (.val (.d (.bool (tye l ps ((elO a1).map aT))))) g')→L111_8 g.boxes.length g1.boxes.length g2.boxes.length g3 Qf:=by
   intro hQ;refine w111_8 ⟨a1,t1,gok uT siy rfl b4 rfl,?_⟩;refine cog (p:=λy=>!(tyd l ps (aT y))) (P:=λg'=>Kp [] g3.toks.length g3 g') t1 (λy hy g4 h4 Q hQ4=>?_) (Kp.refl _ _ _) λg' hk=>⟨_,rfl,?_⟩
   ·have b0':SB g4 p mb D:=h4.at b0 (by simp);refine w182 (ex.2 y hy) ⟨p,0,gok unp sip rfl (h4.at b3 (by simp)) rfl,_,hd,goa hdu szD hda (h4.at b5 (by simp)) rfl,?_⟩;have hlt:SizeOf.sizeOf y<n:=by
     obtain⟨i,hi,rfl⟩:=List.mem_iff_getElem.1 hy;have:=siz hi;omega
    refine tpd n hlt (ex.2 y hy) hd hps hD b0' λg5 h5=>⟨_,rfl,hQ4 g5 (h4.trans (h5.le (λj hj=>hj) h4.tlen))⟩
   ·have:(!((elO a1).any λy=>!(tyd l ps (aT y))))=tye l ps ((elO a1).map aT):=by
     clear hQ hps e1 b4 hc exl ex t1 hg2 hsz hx
     induction elO a1 with
     |nil=>rfl
     |cons y ys ih=>simp only[List.any_cons,List.map_cons,tye,Bool.not_or,Bool.not_not,ih]
    rw[this];exact hQ g' (kp.trans (hk.le (λj hj=>hj) (by rw[ht3];exact Nat.le_refl _)))
  refine w111_1 ⟨k1,gok uI siI rfl b4 rfl,Bi.2 ⟨λq=>?_,λq=>Bi.2 ⟨λq2=>?_,λq2=>L8 ?_⟩⟩⟩
  ·rw[q] at hQ;refine⟨a2,ha2,gok uS siS rfl b5 rfl,s1,hs1,gok unS szr rfl b4 rfl,sCo ha2 hps hs1 ⟨_,rfl,hQ g3 kp⟩⟩
  ·rw[q,q2] at hQ;refine⟨p,0,gok unp sip rfl b3 rfl,D,hD.ty,gok uD sD rfl b0 rfl,?_⟩;refine inx (s:=s1) hD (λy hy Q hq=>?_) ⟨_,rfl,?_⟩
   ·have hty:=(hD.ty.els uD).2 y hy;obtain⟨s3,a3,b3',p3,rfl,_⟩:=det hty;exact w181 hty ⟨s1,hs1,gok unS szr rfl b4 rfl,hq⟩
   ·rcases deI s1 l 0 with ⟨i,d',e',hi,hp⟩|⟨e',hp⟩
    ·rw[hp] at hQ;have e':dI s1 l 0=((0+i:Nat):Int):=e';rw[Nat.zero_add] at e';rw[e'];have hlt:i<l.length:=(List.getElem?_eq_some_iff.1 hi).1;obtain⟨s4,a4,b4',p4,eg,_,ha4,_,el⟩:=hD.get hlt;refine brF (by simp) ⟨p,0,gok unp sip rfl b3 rfl,D,hD.ty,gok uD sD rfl b0 rfl,by rw[hD.len];exact inB hlt,a1,t1,gok uT siy rfl b4 rfl,?_⟩;rw[eg];have hl4:d'.ps.length=(elO a4).length:=by
      rw[List.getElem?_eq_getElem hlt] at hi;cases hi;rw[el];simp
     simp only[cond_true,cond_false,hl4] at hQ;refine Bi.2 ⟨λq5=>?_,λq5=>L8 ?_⟩
     ·have:((elO a4).length==(elO a1).length)=false:=by
       rw[beq_eq_false_iff_ne];intro e;rw[show elO (fld (Dat.agg [Dat.str s4,a4,b4',Dat.int IntKind.i64 p4]) 1)=elO a4 from rfl,e] at q5;simp at q5
      rw[this] at hQ;exact hQ g3 kp
     ·have:((elO a4).length==(elO a1).length)=true:=by
       have q5:(((elO a4).length:Int)!=((elO a1).length:Int))=false:=q5;have:((elO a4).length:Int)=(elO a1).length:=by simpa using q5
       rw[beq_iff_eq];omega
      rw[this] at hQ;exact hQ
    ·rw[hp] at hQ;have e':dI s1 l 0=-1:=e';rw[e'];exact brT (by decide) (hQ g3 kp)
  ·rw[q,q2] at hQ;exact hQ
end Go.Proofs.YtiheejdkkjfenaaGreatDoor.Pa
namespace Go.Proofs.YtiheejdkkjfenaaGreatDoor.Pa
open Go Go.Proofs.YtiheejdkkjfenaaGreatDoor.Am
theorem Kp.new{bx:List Nat}{b i:Nat}{g g1 g2:Glob}(h:Kp bx b g g1)(ho:Oe i g1 g2)(hi:g.boxes.length≤i):Kp bx b g g2:=
 ⟨by rw[ho.len];exact h.len,λj hj hx=>by rw[ho.get (by omega)];exact h.box j hj hx,by rw[ho.toks];exact h.tlen,λj hj=>by rw[ho.toks];exact h.tok j hj⟩
theorem kpg(g:Glob)(b:Nat):Kp [] b g (gmn g):=⟨by rw[gme];omega,λj hj _=>gmw hj,Nat.le_refl _,λ_ _=>rfl⟩
theorem cBo(st:List Str)(s:Str):(((cB (st++[s]) s:Nat):Int)==1)=!st.contains s:=by
 have h:cB (st++[s]) s=cB st s+1:=by simp[cB,List.count_append]
 rw[h,←cBz,Bool.eq_iff_iff];simp only[beq_iff_eq];omega
theorem mao{g:Glob}{i:Nat}{st:List Str}(h:MI true g i (cntF (cB st)))(s:Str)(hc:st.length≤2^50):
 ∃n b,ML g (some i) (.int .i64 0) (.str s) (.int .i64 n) b∧∃g',gmp g i (.str s) (.int .i64 (IntKind.i64.wrap (n+1)))=some g'∧Oe i g g'∧MI true g' i (cntF (cB (st++[s])))∧
  ∃m b',ML g' (some i) (.int .i64 0) (.str s) (.int .i64 m) b'∧(m==1)=!st.contains s:=by
 have hle:=cBl st s;obtain⟨h1,g',a,b,d⟩:=mai h s (by omega);rw[cBa] at d;have h2:=d.mlo (z:=.int .i64 0) (sK s);rw[cnF] at h2;exact⟨_,_,h1,g',a,b,d,_,_,h2,cBo st s⟩
theorem SB.oA1{g g':Glob}{p mb i:Nat}{D:Dat}(h:SB g p mb D)(hne:p≠i)(ho:Oe i g g'):SB g' p mb D:=(ho.get hne).trans h
theorem fre{X:Dat}{l:List Str}(h:Ha TT 82 X)(e:elO X=l.map .str):∀s∈l,s.length≤2^40:=by
 obtain⟨l',e',s,_⟩:=sti h;rw[←mr (e'.symm.trans e)];exact s
def Ed(b:Nat)(g:Glob)(Qf:OGP)(c:Int):Option Int→Prop
 |some p=>∀g',Kp [] b g g'→Qf (.panic (flD c p)) g'
 |none=>∀g',Kp [] b g g'→Qf (.val (.tuple [])) g'
structure DS(p p2 p3 mb:Nat)(D:Dat)(g0 g:Glob)(st sc:List Str):Prop where
 kp:Kp [] g0.toks.length g0 g
 bx:SB g p mb D
 m2:MI true g p2 (cntF (cB st))
 m3:MI true g p3 (cntF (cB sc))
theorem asc{D:Dat}{i:Nat}(h:i<(elO D).length):((elO D).drop i).map abD=abD (elO D)[i]::((elO D).drop (i+1)).map abD:=by rw[List.drop_eq_getElem_cons h];rfl
theorem suT{x:Dat}{l:List Str}{j:Nat}(hx:Ha TT 82 x)(hl:elO x=l.map .str)(hj:j≤l.length):Ha TT 82 (sS 1 x (elO x) 0 (j:Int))∧elO (sS 1 x (elO x) 0 (j:Int))=(l.take j).map .str:=by
 obtain⟨l',e',s',n'⟩:=sti hx;obtain rfl:l'=l:=mr (e'.symm.trans hl);unfold sS;split
 ·rename_i h;have:j=l'.length:=by have:=h.2;rw[hl,List.length_map] at this;omega
  subst this;rw[List.take_length];exact⟨hx,hl⟩
 ·rw[hl];have e:((l'.map Dat.str).take (j:Int).toNat).drop (0:Int).toNat=(l'.take j).map .str:=by
   rw[Int.toNat_natCast,show(0:Int).toNat=0 from rfl,List.drop_zero,List.map_take]
  rw[e];refine⟨.sl _ _ _ _ uS szS ((hx.els uS).1.le (by rw[hl,List.length_map,List.length_map,List.length_take];omega)) λy hy=>?_,rfl⟩;obtain⟨s,hs,rfl⟩:=List.mem_map.1 hy;exact tsr (s' s (List.mem_of_mem_take hs))
theorem dea{p mb:Nat}{D:Dat}{l:List Dc}{g:Glob}{Qf:OGP}(hD:DL D l)(hb:SB g p mb D)(hn:l.length≤2^20)(hcs:∀d∈l,d.cs.length≤2^20)
 (hQ:match pBa [sIt] [] l with|some q=>Ed g.toks.length g Qf 141 (some q)|none=>Ed g.toks.length g Qf 141 (fir l l)):EvF TT 65 [.ptr (some (p,0))] g Qf:=by
 have exl:=lel uD hD.ty;have abs0:l=((elO D).drop 0).map abD:=by rw[List.drop_zero,hD.abs]
 -- the Fields' types
 have second:∀g1,Kp [] g.toks.length g g1→SB g1 p mb D→Ed g.toks.length g Qf 141 (fir l l)→L65_19 p D ((elO D).length:Int) 0 g1 Qf:=by
  intro g1 hk1 hb1 hE;have hE:Ed g.toks.length g Qf 141 (fir l (((elO D).drop 0).map abD)):=by rw[←abs0];exact hE
  refine lU (len:=(elO D).length) (λi=>∀g1,Kp [] g.toks.length g g1→SB g1 p mb D→Ed g.toks.length g Qf 141 (fir l (((elO D).drop i).map abD))→L65_19 p D ((elO D).length:Int) (i:Int) g1 Qf) ?_ ?_ 0 (Nat.zero_le _) g1 hk1 hb1 hE
  ·intro g1 hk1 hb1 hE;refine w65_19 ?_;rw[Bg];rw[List.drop_length] at hE;exact hE g1 hk1
  ·intro i hi ih g1 hk1 hb1 hE;refine w65_19 ?_;rw[Bl hi,geE hi];rw[asc hi] at hE;have hty:=(hD.ty.els uD).2 _ (List.getElem_mem hi);obtain⟨s2,a2,b2,q2,e,hs2,ha2,hb2⟩:=det hty;rw[e] at hty hE⊢;refine⟨inB hi,?_⟩;show L65_22 p D ((elO D).length:Int) (i:Int) b2 ((elO b2).length:Int) 0 (.agg [.str s2,a2,b2,.int .i64 q2]) g1 Qf;have eb:=hb2.els uC;have ebl:=eb.1.1;have hps:elO (fld (.agg [.str s2,a2,b2,.int .i64 q2]) 1)=((elO a2).map strOf).map .str:=stE ha2;have hE:Ed g.toks.length g Qf 141 (bif coT l ((elO a2).map strOf) (((elO b2).drop 0).map aC) then fir l (((elO D).drop (i+1)).map abD) else some q2):=by rw[List.drop_zero];exact hE
   refine lU (len:=(elO b2).length) (λj=>∀g1,Kp [] g.toks.length g g1→SB g1 p mb D→Ed g.toks.length g Qf 141 (bif coT l ((elO a2).map strOf) (((elO b2).drop j).map aC) then fir l (((elO D).drop (i+1)).map abD) else some q2)→
    L65_22 p D ((elO D).length:Int) (i:Int) b2 ((elO b2).length:Int) (j:Int) (.agg [.str s2,a2,b2,.int .i64 q2]) g1 Qf) ?_ ?_ 0 (Nat.zero_le _) g1 hk1 hb1 hE
   ·intro g1 hk1 hb1 hE;refine w65_22 ?_;rw[Bg,wra (by omega)];rw[List.drop_length] at hE;exact ih g1 hk1 hb1 hE
   ·intro j hj ihj g1 hk1 hb1 hE;refine w65_22 ?_;rw[Bl hj,geE hj];rw[List.drop_eq_getElem_cons hj,List.map_cons] at hE;obtain⟨t3,f3,e3,ht3,tf3⟩:=coy (eb.2 _ (List.getElem_mem hj));rw[e3] at hE⊢;have et:=tf3.els uT;have etl:=et.1.1;refine⟨inB hj,?_⟩;show L65_25 p D ((elO D).length:Int) (i:Int) b2 ((elO b2).length:Int) (j:Int) f3 ((elO f3).length:Int) 0 (.agg [.str s2,a2,b2,.int .i64 q2]) g1 Qf;have hE:Ed g.toks.length g Qf 141 (bif tye l ((elO a2).map strOf) (((elO f3).drop 0).map aT)&&coT l ((elO a2).map strOf) (((elO b2).drop (j+1)).map aC) then fir l (((elO D).drop (i+1)).map abD) else some q2):=by
     rw[List.drop_zero,←ay];exact hE
    refine lU (len:=(elO f3).length) (λm=>∀g1,Kp [] g.toks.length g g1→SB g1 p mb D→Ed g.toks.length g Qf 141 (bif tye l ((elO a2).map strOf) (((elO f3).drop m).map aT)&&coT l ((elO a2).map strOf) (((elO b2).drop (j+1)).map aC) then fir l (((elO D).drop (i+1)).map abD) else some q2)→
     L65_25 p D ((elO D).length:Int) (i:Int) b2 ((elO b2).length:Int) (j:Int) f3 ((elO f3).length:Int) (m:Int) (.agg [.str s2,a2,b2,.int .i64 q2]) g1 Qf) ?_ ?_ 0 (Nat.zero_le _) g1 hk1 hb1 hE
    ·intro g1 hk1 hb1 hE;refine w65_25 ?_;rw[Bg,wra (by omega)];rw[List.drop_length] at hE;exact ihj g1 hk1 hb1 hE
    ·intro m hm ihm g1 hk1 hb1 hE;refine w65_25 ?_;rw[Bl hm,geE hm];rw[List.drop_eq_getElem_cons hm,List.map_cons] at hE;unfold tye at hE;refine⟨inB hm,tpd _ (Nat.lt_succ_self _) (et.2 _ (List.getElem_mem hm)) hty hps hD hb1 λg2 hk2=>⟨_,rfl,?_⟩⟩;have hk2':Kp [] g.toks.length g g2:=hk1.trans (hk2.le (λj hj=>hj) hk1.tlen);refine wat (λq=>?_) λq=>⟨trivial,?_⟩
     ·rw[q] at hE;exact hE g2 hk2'
     ·rw[q,Bool.true_and] at hE;rw[wra (by omega)];exact ihm g2 hk2' (hk2.at hb1 (by simp)) hE
 have first:∀g2 p2 p3,DS p p2 p3 mb D g g2 [sIt] []→g.boxes.length≤p2→g.boxes.length≤p3→p2≠p3→L65_2 p p2 p3 D ((elO D).length:Int) 0 g2 Qf:=by
  intro g2 p2 p3 hS l2 l3 hne;rw[abs0] at hQ;have bounds:∀i,(((elO D).take i).map abD).length≤2^20:=λi=>by rw[List.length_map,List.length_take,hD.len];omega
  refine lU (len:=(elO D).length) (λi=>∀g2 st sc,DS p p2 p3 mb D g g2 st sc→st.length=i+1→sc.length≤i*2^20→
   (match pBa st sc (((elO D).drop i).map abD) with|some q=>Ed g.toks.length g Qf 141 (some q)|none=>Ed g.toks.length g Qf 141 (fir l l))→L65_2 p p2 p3 D ((elO D).length:Int) (i:Int) g2 Qf) ?_ ?_ 0 (Nat.zero_le _) g2 [sIt] [] hS rfl (Nat.zero_le _) (by rw[←abs0] at hQ⊢;exact hQ)
  ·intro g2 st sc hS _ _ hE;refine w65_2 ?_;rw[Bg];rw[List.drop_length] at hE;exact⟨D,hD.ty,gok uD sD rfl hS.bx rfl,second g2 hS.kp hS.bx hE⟩
  ·intro i hi ih g2 st sc hS hst hsc hE;refine w65_2 ?_;rw[Bl hi,geE hi];rw[asc hi] at hE;have hmem:abD (elO D)[i]∈l:=by rw[←hD.abs];exact List.mem_map_of_mem (List.getElem_mem hi)
   have hcn:=hcs _ hmem;have hil:i<l.length:=by rw[←hD.len];exact hi
   have hty:=(hD.ty.els uD).2 _ (List.getElem_mem hi);obtain⟨s2,a2,b2,q2,e,hs2,ha2,hb2⟩:=det hty;rw[e] at hty hE hcn⊢;have hcn:(elO b2).length≤2^20:=by simpa[abD,fld,nth] using hcn
   unfold pBa at hE;have e0:(abD (.agg [.str s2,a2,b2,.int .i64 q2]))=⟨s2,(elO a2).map strOf,(elO b2).map aC,q2⟩:=rfl;rw[e0] at hE;simp only at hE;obtain⟨n1,bb,m1,g3,m2,m3,m4,n2,bb',m5,m6⟩:=mao hS.m2 s2 (by omega);have hk3:Kp [] g.toks.length g g3:=hS.kp.new m3 l2;refine⟨inB hi,_,_,m1,g3,m2,_,_,m5,?_⟩;rw[m6];refine wat (λq=>?_) λq=>⟨trivial,?_⟩
   ·have q:st.contains s2=true:=by simpa using q
    rw[q] at hE;exact hE g3 hk3
   have q:st.contains s2=false:=by simpa using q
   rw[q] at hE;simp only[cond_false] at hE;have hS3:DS p p2 p3 mb D g g3 (st++[s2]) sc:=⟨hk3,hS.bx.oA1 (by
    intro e;have:=hS.bx;unfold SB at this;obtain⟨es,c,h1,_⟩:=hS.m2;rw[e,h1] at this;cases this) m3,m4,hS.m3.other (m3.get (λe=>hne e.symm)) (j:=0)⟩
   show L65_7 p p2 p3 D ((elO D).length:Int) (i:Int) a2 ((elO a2).length:Int) 0 (.agg [.str s2,a2,b2,.int .i64 q2]) g3 Qf;have hps:elO a2=((elO a2).map strOf).map .str:=stE ha2;generalize hpl:(elO a2).map strOf=ps at hE hps;have eal:=elL hps;have npl:ps.length≤2^40:=by have:=(ha2.els uS).1.1;omega
   have sps:=fre ha2 hps;have eb:=hb2.els uC
   -- the constructors
   have third:(match (match coF sc ((elO b2).map aC) with|none=>some q2|some sc'=>pBa (st++[s2]) sc' (((elO D).drop (i+1)).map abD)) with|some q=>Ed g.toks.length g Qf 141 (some q)|none=>Ed g.toks.length g Qf 141 (fir l l))→
     L65_12 p p2 p3 D ((elO D).length:Int) (i:Int) b2 ((elO b2).length:Int) 0 (.agg [.str s2,a2,b2,.int .i64 q2]) g3 Qf:=by
    intro hE;have hE:(match (match coF sc (((elO b2).drop 0).map aC) with|none=>some q2|some sc'=>pBa (st++[s2]) sc' (((elO D).drop (i+1)).map abD)) with|some q=>Ed g.toks.length g Qf 141 (some q)|none=>Ed g.toks.length g Qf 141 (fir l l)):=by
     rw[List.drop_zero];exact hE
    refine lU (len:=(elO b2).length) (λj=>∀g3 sc0,DS p p2 p3 mb D g g3 (st++[s2]) sc0→sc0.length=sc.length+j→(match (match coF sc0 (((elO b2).drop j).map aC) with|none=>some q2|some sc'=>pBa (st++[s2]) sc' (((elO D).drop (i+1)).map abD)) with|some q=>Ed g.toks.length g Qf 141 (some q)|none=>Ed g.toks.length g Qf 141 (fir l l))→
     L65_12 p p2 p3 D ((elO D).length:Int) (i:Int) b2 ((elO b2).length:Int) (j:Int) (.agg [.str s2,a2,b2,.int .i64 q2]) g3 Qf) ?_ ?_ 0 (Nat.zero_le _) g3 sc hS3 rfl hE
    ·intro g3 sc0 hS3 hsc0 hE;refine w65_12 ?_;rw[Bg,wra (by omega)];rw[List.drop_length] at hE;refine ih g3 (st++[s2]) sc0 hS3 (by simp[hst]) ?_ hE;have:(i+1)*2^20=i*2^20+2^20:=by rw[Nat.add_mul,Nat.one_mul]
     omega
    ·intro j hj ihj g3 sc0 hS3 hsc0 hE;refine w65_12 ?_;rw[Bl hj,geE hj];rw[List.drop_eq_getElem_cons hj,List.map_cons] at hE;obtain⟨t3,f3,e3,ht3,tf3⟩:=coy (eb.2 _ (List.getElem_mem hj));rw[e3] at hE⊢;unfold coF at hE;have e1:(aC (.agg [.str t3,f3])).s=t3:=rfl;rw[e1] at hE;have hbd:i*2^20≤2^20*2^20:=Nat.mul_le_mul_right _ (by omega);obtain⟨n1,bb,m1,g4,m2,m3,m4,n2,bb',m5,m6⟩:=mao hS3.m3 t3 (by omega);have hk4:Kp [] g.toks.length g g4:=hS3.kp.new m3 l3;refine⟨inB hj,_,_,m1,g4,m2,_,_,m5,?_⟩;rw[m6];refine wat (λq=>?_) λq=>⟨trivial,?_⟩
     ·have q:sc0.contains t3=true:=by simpa using q
      rw[q] at hE;exact hE g4 hk4
     ·have q:sc0.contains t3=false:=by simpa using q
      rw[q] at hE;simp only[cond_false] at hE;rw[wra (by omega)];refine ihj g4 (sc0++[t3]) ⟨hk4,hS3.bx.oA1 (by
       intro e;have:=hS3.bx;unfold SB at this;obtain⟨es,c,h1,_⟩:=hS3.m3;rw[e,h1] at this;cases this) m3,hS3.m2.other (m3.get hne) (j:=0),m4⟩ (by simp[hsc0];omega) hE
   -- the parameters
   have hE:(match (bif duS (ps.take 0) (ps.drop 0) then some q2 else(match coF sc ((elO b2).map aC) with|none=>some q2|some sc'=>pBa (st++[s2]) sc' (((elO D).drop (i+1)).map abD))) with|some q=>Ed g.toks.length g Qf 141 (some q)|none=>Ed g.toks.length g Qf 141 (fir l l)):=by
    rw[List.take_zero,List.drop_zero];exact hE
   rw[eal];refine lU (len:=ps.length) (λj=>(match (bif duS (ps.take j) (ps.drop j) then some q2 else(match coF sc ((elO b2).map aC) with|none=>some q2|some sc'=>pBa (st++[s2]) sc' (((elO D).drop (i+1)).map abD))) with|some q=>Ed g.toks.length g Qf 141 (some q)|none=>Ed g.toks.length g Qf 141 (fir l l))→
    L65_7 p p2 p3 D ((elO D).length:Int) (i:Int) a2 (ps.length:Int) (j:Int) (.agg [.str s2,a2,b2,.int .i64 q2]) g3 Qf) ?_ ?_ 0 (Nat.zero_le _) hE
   ·intro hE;refine w65_7 ?_;rw[Bg];rw[List.drop_length] at hE;exact third hE
   ·intro j hj ihj hE;refine w65_7 ?_;rw[Bl hj,srA hps hj];rw[List.drop_eq_getElem_cons hj] at hE;unfold duS at hE;obtain⟨u1,u2⟩:=suT ha2 hps (Nat.le_of_lt hj);refine⟨by rw[eal];exact inB hj,⟨Int.le_refl _,by omega,by show(j:Int)≤((elO a2).length:Int);omega⟩,sCo u1 u2 (sps _ (List.getElem_mem hj)) ⟨_,rfl,wat (λq=>?_) λq=>⟨trivial,?_⟩⟩⟩
    ·have q:(ps.take j).contains ps[j]=true:=by simpa using q
     rw[q] at hE;exact hE g3 hk3
    ·have q:(ps.take j).contains ps[j]=false:=by simpa using q
     rw[q,Bool.false_or,←List.take_succ_eq_append_getElem hj] at hE;rw[wra (by omega)];exact ihj hE
 refine w65 ?_;have mn:=mas true g;have e0:(λ_:Dat=>(none:Option Dat))=cntF (cB []):=by funext k;cases k<;>simp[cntF,cB]
 rw[e0] at mn;obtain⟨g1,a1,b1,c1⟩:=mn.put (sK sIt) (.int .i64 1);have c1:MI true g1 g.boxes.length (cntF (cB [sIt])):=by
  have:=upp (cB []) sIt (n:=1) (by omega);rw[show((1:Nat):Int)=1 from rfl] at this;rw[this] at c1;have e:stC (cB []) sIt 1=cB [sIt]:=by
   have:=sei (cB []) sIt;rw[cBa] at this;exact this
  rw[e] at c1;exact c1
 have k1:Kp [] g.toks.length g g1:=(kpg g _).new b1 (Nat.le_refl _);have l1:g1.boxes.length=g.boxes.length+1:=by rw[b1.len,gme]
 have k2:Kp [] g.toks.length g (gmn g1):=k1.trans (kpg _ _);have hb2:SB (gmn g1) p mb D:=k2.at hb (by simp);have mn2:=mas true g1;rw[e0] at mn2;refine⟨g1,a1,D,hD.ty,gok uD sD rfl hb2 rfl,first _ _ _ ⟨k2,hb2,c1.other (gmw (by omega)) (j:=0),mn2⟩ (Nat.le_refl _) (by omega) (by omega)⟩
end Go.Proofs.YtiheejdkkjfenaaGreatDoor.Pa
namespace Go.Proofs.YtiheejdkkjfenaaGreatDoor.Pa
open Go Go.Proofs.YtiheejdkkjfenaaGreatDoor.Am
theorem Kp.nK{bx:List Nat}{b b' i:Nat}{g g1 g2:Glob}(h:Kp bx b g g1)(ho:Kp [i] b' g1 g2)(hi:g.boxes.length≤i)(hb:b≤b'):Kp bx b g g2:=
 ⟨Nat.le_trans h.len ho.len,λj hj hx=>by rw[ho.box j (Nat.lt_of_lt_of_le hj h.len) (by simp;omega)];exact h.box j hj hx,Nat.le_trans h.tlen ho.tlen,λj hj=>by rw[ho.tok j (Nat.lt_of_lt_of_le hj hb)];exact h.tok j hj⟩
theorem SB.decls{g:Glob}{p mb:Nat}{D:Dat}(h:SB g p mb D):GOk TT 22 g p 0 D:=gok uD sD rfl h rfl
theorem cA2{p mb m:Nat}{D:Dat}{l:List Dc}{s:Str}{at_:Int}{g:Glob}{Qf:OGP}(hD:DL D l)(hb:SB g p mb D)(hs:s.length≤2^40)(hT:coO l s m=true→Qf (.val (.tuple [])) g)(hF:coO l s m=false→Qf (.panic (flD 140 at_)) g):
 EvF TT 112 [.ptr (some (p,0)),.str s,.int .i64 m,.int .i64 at_] g Qf:=by
 refine w112 hs ⟨D,hD.ty,hb.decls,find_ok D s g hD.ty hs _ ?_⟩;rw[hD.abs];rcases fid s l 0 with ⟨i,j,d,c,e,hi,hj,hf⟩|⟨e,hf⟩
 ·rw[e,Int.zero_add];have hlt:i<l.length:=(List.getElem?_eq_some_iff.1 hi).1;obtain⟨s4,a4,b4,p4,eg,_,_,hb4,el⟩:=hD.get hlt;rw[List.getElem?_eq_getElem hlt] at hi;have hd:d=⟨s4,(elO a4).map strOf,(elO b4).map aC,p4⟩:=by rw[←el];exact(Option.some.inj hi).symm
  subst hd;have hj:((elO b4).map aC)[j]?=some c:=hj;have hjl:j<(elO b4).length:=by have:=(List.getElem?_eq_some_iff.1 hj).1;rwa [List.length_map] at this
  rw[List.getElem?_map,List.getElem?_eq_getElem hjl] at hj;have hc:aC (elO b4)[j]=c:=by simpa using hj
  refine⟨_,_,_,⟨rfl,rfl,rfl,trivial⟩,⟨D,hD.ty,hb.decls,by rw[hD.len];exact inB hlt,?_⟩⟩;rw[eg];show InB (j:Int) (elO b4).length∧EvF TT 109 [Dat.bool (((elO (fld (gtE (elO b4) (j:Int)) 1)).length:Int)==(m:Int)),_,_] g _;rw[geE hjl];have hfs:c.fs.length=(elO (fld (elO b4)[j] 1)).length:=by rw[←hc,abn]
  have hco:coO l s m=(((elO (fld (elO b4)[j] 1)).length:Int)==(m:Int)):=by
   unfold coO;rw[hf,hfs,Bool.eq_iff_iff];simp;omega
  refine⟨inB hjl,wat (λq=>hF (by rw[hco];exact q)) λq=>⟨trivial,hT (by rw[hco];exact q)⟩⟩
 ·rw[e];have hco:coO l s m=false:=by unfold coO;rw[hf];rfl
  exact⟨_,_,_,⟨rfl,rfl,rfl,trivial⟩,wat (λ_=>hF hco) λq=>by cases q⟩
mutual
theorem paF(l:List Dc):∀(x:Pt) (ns r:List Str),ptF l x ns=.ok r→r.length≤ns.length+sPt x
 |.mk k s n a p,ns,r,h=>by
  unfold ptF at h;simp only[sPt];cases q:k==2 with
  |true=>
   rw[q] at h;cases q2:ns.contains s with
   |true=>rw[q2] at h;cases h
   |false=>
    rw[q2] at h;have:=pal l a (ns++[s]) r h;simp only[List.length_append,List.length_cons,List.length_nil] at this;omega
  |false=>
   rw[q] at h;cases q2:k==4&&!(coO l s a.length) with
   |true=>rw[q2] at h;cases h
   |false=>
    rw[q2] at h;have:=pal l a ns r h;omega
theorem pal(l:List Dc):∀(x:List Pt) (ns r:List Str),pF l x ns=.ok r→r.length≤ns.length+szP x
 |[],ns,r,h=>by cases h;exact Nat.le_refl _
 |x::xs,ns,r,h=>by
  unfold pF at h;cases q:ptF l x ns with
  |bad p=>rw[q] at h;cases h
  |ok ns'=>
   rw[q] at h;have h1:=paF l x ns ns' q;have h2:=pal l xs ns' r h;simp only[szP];omega
end
def PE(b p2:Nat)(g:Glob)(Qf:OGP):PR→Prop
 |.bad q=>∀g',Kp [p2] b g g'→Qf (.panic (flD 140 q)) g'
 |.ok ns=>∀g' X',g'.boxes[p2]?=some (.cells [.d X'])→Gr b g' X' ns→(∀s∈ns,s.length≤2^40)→Kp [p2] b g g'→Qf (.val (.tuple [])) g'
theorem PE.later{b p2:Nat}{g g':Glob}{Qf:OGP}{r:PR}(h:PE b p2 g Qf r)(k:Kp [p2] b g g'):PE b p2 g' Qf r:=by
 cases r with
 |bad q=>exact λg2 k2=>h g2 (k.trans k2)
 |ok ns=>exact λg2 X' h1 h2 h3 k2=>h g2 X' h1 h2 h3 (k.trans k2)
theorem ptk:∀(n:Nat) {x D X:Dat} {l:List Dc} {ns:List Str} {p p2 mb b:Nat} {g:Glob} {Qf:OGP},SizeOf.sizeOf x<n→Ha TT 52 x→DL D l→SB g p mb D→g.boxes[p2]?=some (.cells [.d X])→Gr b g X ns→b≤g.toks.length→
 (∀s∈ns,s.length≤2^40)→ns.length+sPt (aP x)≤2^29→PE b p2 g Qf (ptF l (aP x) ns)→EvF TT 113 [.ptr (some (p,0)),x,.ptr (some (p2,0))] g Qf
 |0,x,D,X,l,ns,p,p2,mb,b,g,Qf,hsz,_,_,_,_,_,_,_,_,_=>by omega
 |n+1,x,D,X,l,ns,p,p2,mb,b,g,Qf,hsz,hx,hD,hb,hp2,hg,hbt,hs,hn,hE=>by
  obtain⟨k1,s1,v1,a1,q1,rfl,hs1,t1⟩:=ptt hx;have ex:=t1.els uP;have exl:=ex.1.1;have hc:=sO (cs:=[.int .i64 k1,.str s1,.int .i64 v1,a1,.int .i64 q1]) (c:=a1) (by simp);have e1:ptF l (aP (.agg [.int .i64 k1,.str s1,.int .i64 v1,a1,.int .i64 q1])) ns=(bif k1==2 then(bif ns.contains s1 then .bad q1 else pF l (((elO a1).drop 0).map aP) (ns++[s1])) else bif k1==4&&!(coO l s1 (elO a1).length) then .bad q1 else pF l (((elO a1).drop 0).map aP) ns):=by
   simp only[aP,ptF,abP,List.length_map,List.drop_zero]
  have e2:sPt (aP (.agg [.int .i64 k1,.str s1,.int .i64 v1,a1,.int .i64 q1]))=1+szP (((elO a1).drop 0).map aP):=by simp only[aP,sPt,abP,List.drop_zero]
  rw[e1] at hE;rw[e2] at hn;have hne:p≠p2:=λe=>by
   unfold SB at hb;rw[e,hp2] at hb;cases hb
  have loop:∀{X:Dat} {ns:List Str} {g0:Glob},SB g0 p mb D→g0.boxes[p2]?=some (.cells [.d X])→Gr b g0 X ns→b≤g0.toks.length→(∀s∈ns,s.length≤2^40)→ns.length+szP (((elO a1).drop 0).map aP)≤2^29→PE b p2 g0 Qf (pF l (((elO a1).drop 0).map aP) ns)→
   L113_8 p p2 a1 ((elO a1).length:Int) 0 g0 Qf:=by
   intro X ns g0 hb hp2 hg hbt hs hn hE;refine lU (len:=(elO a1).length) (λi=>∀{X:Dat} {ns:List Str} {g0:Glob},SB g0 p mb D→g0.boxes[p2]?=some (.cells [.d X])→Gr b g0 X ns→b≤g0.toks.length→(∀s∈ns,s.length≤2^40)→ns.length+szP (((elO a1).drop i).map aP)≤2^29→PE b p2 g0 Qf (pF l (((elO a1).drop i).map aP) ns)→
    L113_8 p p2 a1 ((elO a1).length:Int) (i:Int) g0 Qf) ?_ ?_ 0 (Nat.zero_le _) hb hp2 hg hbt hs hn hE
   ·intro X ns g0 hb hp2 hg hbt hs hn hE;refine w113_8 ?_;rw[Bg];rw[List.drop_length] at hE;exact hE g0 X hp2 hg hs (Kp.refl _ _ _)
   ·intro i hi ih X ns g0 hb hp2 hg hbt hs hn hE;refine w113_8 ?_;rw[Bl hi,geE hi];have h1:=siz hi;rw[szt hi] at hn;rw[List.drop_eq_getElem_cons hi,List.map_cons] at hE;unfold pF at hE;refine⟨inB hi,ptk n (by omega) (ex.2 _ (List.getElem_mem hi)) hD hb hp2 hg hbt hs (by omega) ?_⟩;cases hr:ptF l (aP (elO a1)[i]) ns with
    |bad q=>
     rw[hr] at hE;exact λg' k'=>hE g' k'
    |ok ns'=>
     rw[hr] at hE;intro g' X' h3 h4 h5 k';refine⟨trivial,?_⟩;rw[wra (by omega)];have hl:=paF l _ _ _ hr;exact ih (k'.at hb (by simpa using hne)) h3 h4 (Nat.le_trans hbt k'.tlen) h5 (by omega) (hE.later k')
  refine w113 hx ?_;show Br (k1==2) _ (Br (k1==4) _ _);refine Bi.2 ⟨λq=>?_,λq=>Bi.2 ⟨λq2=>?_,λq2=>?_⟩⟩
  ·rw[q] at hE;have hX:=hg.ty (by omega) hs;refine⟨X,hX,gok uS siS rfl hp2 rfl,sCo hX hg.els hs1 ⟨_,rfl,wat (λq3=>?_) λq3=>⟨trivial,?_⟩⟩⟩
   ·have q3:(!ns.contains s1)=false:=q3;have q3:ns.contains s1=true:=by simpa using q3
    rw[q3] at hE;exact hE g (Kp.refl _ _ _)
   ·have q3:(!ns.contains s1)=true:=q3;have q3:ns.contains s1=false:=by simpa using q3
    rw[q3] at hE;simp only[cond_true,cond_false] at hE;obtain⟨r,g2,r1,r2,r3⟩:=hg.app hbt s1;have hp2':g2.boxes[p2]?=some (.cells [.d X]):=by rw[r3.boxes];exact hp2
    have hr:r.one=true:=by rcases r2 with ⟨rfl,_⟩|⟨kk,rfl,_⟩<;>rfl
    obtain⟨w1,w2⟩:=gpu hp2' hr;have hX1:X.one=true:=by rcases hg with ⟨rfl,_⟩|⟨kk,rfl,_⟩<;>rfl
    refine⟨X,hX,gok uS siS rfl hp2 rfl,⟨_,_,gld uS siS rfl hp2 rfl,gld uS siS rfl (show(gto g 1 1).boxes[p2]?=_ from hp2) rfl,Dat.ber X⟩,fiS (by rw[elL hg.els];simp only[List.length_cons,List.length_nil];omega),r,g2,r1,w1,?_⟩;rw[w2];have ko:Oe p2 g2 {g2 with boxes:=g2.boxes.set p2 (.cells [.d r])}:=⟨_,rfl⟩
    have kk:Kp [p2] b g {g2 with boxes:=g2.boxes.set p2 (.cells [.d r])}:=(r3.kp.le (λj hj=>by cases hj) (Nat.le_refl _)).trans (bK ko b);have hlt:=(List.getElem?_eq_some_iff.1 hp2').1;refine loop (X:=r) (ns:=ns++[s1]) (kk.at hb (by simpa using hne)) (by simp only;rw[List.getElem?_set_self hlt]) (r2.toks rfl) (Nat.le_trans hbt kk.tlen) (λs h=>?_) (by simp only[List.length_append,List.length_cons,List.length_nil];omega) (hE.later kk);rcases List.mem_append.1 h with h|h
    ·exact hs s h
    ·rw[List.mem_singleton] at h;subst h;exact hs1
  ·rw[q,q2] at hE;refine cA2 hD hb hs1 (λh=>⟨trivial,?_⟩) λh=>?_
   ·have h:coO l s1 (elO a1).length=true:=h;rw[h] at hE;exact loop hb hp2 hg hbt hs (by omega) hE
   ·have h:coO l s1 (elO a1).length=false:=h;rw[h] at hE;exact hE g (Kp.refl _ _ _)
  ·rw[q,q2] at hE;exact loop hb hp2 hg hbt hs (by omega) hE
theorem cBp(bd:List Str)(s:Str):decide (0<((cB bd s:Nat):Int))=bd.contains s:=by
 have h:=cBz bd s;cases hc:bd.contains s with
 |true=>
  rw[hc] at h;have h0:((cB bd s:Nat):Int)≠0:=λe=>by rw[e] at h;cases h
  exact decide_eq_true (by omega)
 |false=>
  rw[hc] at h;have h0:((cB bd s:Nat):Int)=0:=by simpa using h
  exact decide_eq_false (by omega)
theorem oEc{s r:Str}{n la lb:Int}(h:oEx 7 s r n la lb=true):la=lb+1:=by
 unfold oEx at h;cases q:(!((7:Int)==6)&&!(r==[]))||((!((7:Int)==2)&&!(n==0))||(!((7:Int)==7)&&pA0 lb)) with
 |true=>rw[q] at h;cases h
 |false=>
  rw[q] at h;have h:((s==[])&&(pA0 lb&&(la==lb+1)))=true:=h;simp only[Bool.and_eq_true,beq_iff_eq] at h;exact h.2.2
theorem oke{l:List Ex'}{i:Nat}{x:Ex'}(h:okx l=true)(hi:l[i]?=some x):okE x=true:=by
 induction l generalizing i with
 |nil=>simp at hi
 |cons y l ih=>
  unfold okx at h;rw[Bool.and_eq_true] at h;cases i with
  |zero=>simp at hi;subst hi;exact h.1
  |succ i=>exact ih h.2 (by simpa using hi)
def EE(b mb:Nat)(bd:List Str)(g:Glob)(Qf:OGP):Option Int→Prop
 |some q=>∀g',Kp [mb] b g g'→Qf (.panic (flD 140 q)) g'
 |none=>∀g',Kp [mb] b g g'→MI true g' mb (cntF (cB bd))→Qf (.val (.tuple [])) g'
theorem EE.later{b mb:Nat}{bd:List Str}{g g':Glob}{Qf:OGP}{r:Option Int}(h:EE b mb bd g Qf r)(k:Kp [mb] b g g'):EE b mb bd g' Qf r:=by
 cases r with
 |some q=>exact λg2 k2=>h g2 (k.trans k2)
 |none=>exact λg2 k2 hm=>h g2 (k.trans k2) hm
theorem sce{g:Glob}{p mb:Nat}{D:Dat}{F:Dat→Option Dat}(h:SB g p mb D)(hm:MI true g mb F):p≠mb:=λe=>by
 obtain⟨es,c,h1,_⟩:=hm;unfold SB at h;rw[e,h1] at h;cases h
theorem epr:∀(n:Nat) {x D:Dat} {l:List Dc} {bd:List Str} {p mb b:Nat} {g:Glob} {Qf:OGP},SizeOf.sizeOf x<n→Ha TT 26 x→okE (ax x)=true→DL D l→SB g p mb D→MI true g mb (cntF (cB bd))→b≤g.toks.length→
 bd.length+2*szx (ax x)≤2^28→EE b mb bd g Qf (exF l (ax x) bd)→EvF TT 66 [.ptr (some (p,0)),x] g Qf
 |0,x,D,l,bd,p,mb,b,g,Qf,hsz,_,_,_,_,_,_,_,_=>by omega
 |n+1,x,D,l,bd,p,mb,b,g,Qf,hsz,hx,hok,hD,hb,hm,hbt,hn,hE=>by
  obtain⟨k1,s1,r1,v1,a1,b1,q1,rfl,hs1,hr1,t1,u1⟩:=exr hx;have ex:=t1.els unE;have exl:=ex.1.1;have eu:=u1.els uP;have hc:=sO (cs:=[.int .i64 k1,.str s1,.str r1,.int .i64 v1,a1,b1,.int .i64 q1]) (c:=a1) (by simp);have e1:exF l (ax (.agg [.int .i64 k1,.str s1,.str r1,.int .i64 v1,a1,b1,.int .i64 q1])) bd=(bif k1==1&&!(bd.contains s1) then some q1 else bif k1==8&&!(coO l s1 (elO a1).length) then some q1 else eF l (nam l k1 s1 r1 ((elO b1).map aP)) (((elO a1).drop 0).map ax) 0 bd):=by
   simp only[ax,exF,abP,abE,List.length_map,List.drop_zero]
  have e2:szx (ax (.agg [.int .i64 k1,.str s1,.str r1,.int .i64 v1,a1,b1,.int .i64 q1]))=1+szP ((elO b1).map aP)+szE (((elO a1).drop 0).map ax):=by simp only[ax,szx,abP,abE,List.drop_zero]
  have e3:oEx k1 s1 r1 v1 (elO a1).length (elO b1).length=true∧okx ((elO a1).map ax)=true:=by
   have h:okE (.mk k1 s1 r1 v1 (abx a1) (abt b1) q1)=true:=hok;unfold okE at h;rw[Bool.and_eq_true,Bool.and_eq_true,abE,abP,List.length_map,List.length_map] at h;exact⟨h.1,h.2.2⟩
  rw[e1] at hE;rw[e2] at hn;have hne:=sce hb hm;have L7:∀(i:Nat),i≤(elO a1).length→∀{g0:Glob} {p2:Nat},g0.boxes[p2]?=some (.cells [.d (.ptr (some (p,0)))])→SB g0 p mb D→MI true g0 mb (cntF (cB bd))→b≤g0.toks.length→EE b mb bd g0 Qf (eF l (nam l k1 s1 r1 ((elO b1).map aP)) (((elO a1).drop i).map ax) i bd)→
   L66_7 p2 a1 ((elO a1).length:Int) (i:Int) (.agg [.int .i64 k1,.str s1,.str r1,.int .i64 v1,a1,b1,.int .i64 q1]) g0 Qf:=by
   refine lU (len:=(elO a1).length) _ ?_ ?_
   ·intro g0 p2 h2 hb hm hbt hE;refine w66_7 ?_;rw[Bg];rw[List.drop_length] at hE;exact hE g0 (Kp.refl _ _ _) hm
   ·intro i hi ih g0 p2 h2 hb hm hbt hE;refine w66_7 ?_;rw[Bl hi,geE hi];have h1:=siz hi;have htx:=ex.2 _ (List.getElem_mem hi);have hmem:szx (ax (elO a1)[i])≤szE (((elO a1).drop 0).map ax):=szm (i:=i) (by rw[List.drop_zero,List.getElem?_map,List.getElem?_eq_getElem hi];rfl);have hoki:okE (ax (elO a1)[i])=true:=oke (i:=i) e3.2 (by rw[List.getElem?_map,List.getElem?_eq_getElem hi];rfl);rw[List.drop_eq_getElem_cons hi,List.map_cons] at hE;unfold eF at hE;refine⟨inB hi,?_⟩;obtain⟨ds,hds,hd7⟩:∃ds,(elO a1)[i]=.agg ds∧ds.length=7:=by
     obtain⟨k',s',r',n',a',b',p',e,_⟩:=exr htx;exact⟨_,e,rfl⟩
    rw[hds] at h1 htx hE hmem hoki⊢;obtain⟨g1a,g1b⟩:=gpe (g:=g0) (z:=[Dat.int IntKind.i64 0,Dat.str [],Dat.str [],Dat.int IntKind.i64 0,Dat.nil,Dat.nil,Dat.int IntKind.i64 0]) (ds:=ds) rfl hd7;rw[g1b];refine⟨g1a,w66_9 ?_⟩;generalize hG:gne (gne g0 ds) [Dat.nil]=G;have kG:Kp [] g0.toks.length g0 G:=by rw[←hG];exact(kw _ _ _).trans (kw _ _ _)
    have tG:G.toks=g0.toks:=by rw[←hG];rfl
    have p5:G.boxes[g0.boxes.length]?=some (.cells (ds.map .d)):=by rw[←hG];exact gew _ _ (gnw _ _)
    have p6:G.boxes[(gne g0 ds).boxes.length]?=some (.cells [.d .nil]):=by rw[←hG];exact gnw _ _
    have h6:(gne g0 ds).boxes.length=g0.boxes.length+1:=gnl _ _;have kmb:mb<g0.boxes.length:=hm.lt;have kG':Kp [mb] b g0 G:=kG.le (λj hj=>by cases hj) hbt;have h2G:=kG.at h2 (by simp);have hbG:SB G p mb D:=kG.at hb (by simp);have hmG:MI true G mb (cntF (cB bd)):=hm.other (kG.box mb kmb (by simp)) (j:=0);have lt2:=(List.getElem?_eq_some_iff.1 h2).1;have ltp:p<g0.boxes.length:=(List.getElem?_eq_some_iff.1 hb).1
    -- behind the names
    have K13:∀{g2:Glob} {Z:Dat} {ns:List Str},Kp [(gne g0 ds).boxes.length] g0.toks.length G g2→g2.boxes[(gne g0 ds).boxes.length]?=some (.cells [.d Z])→Ha TT 82 Z→elO Z=ns.map .str→ns.length≤2+szP ((elO b1).map aP)→
     EE b mb bd g0 Qf (match exF l (ax (.agg ds)) (bd++ns) with|some q=>some q|none=>eF l (nam l k1 s1 r1 ((elO b1).map aP)) (((elO a1).drop (i+1)).map ax) (i+1) bd)→
     L66_13 p2 g0.boxes.length (gne g0 ds).boxes.length a1 ((elO a1).length:Int) (i:Int) (.agg [.int .i64 k1,.str s1,.str r1,.int .i64 v1,a1,b1,.int .i64 q1]) g2 Qf:=by
     intro g2 Z ns k2 hZb hZ eZ hnl hE;have no6:∀{j:Nat},j<g0.boxes.length→j ∉ [(gne g0 ds).boxes.length]:=λh=>by simp;omega
     have h22:=k2.at h2G (no6 lt2);have hb2:SB g2 p mb D:=k2.at hbG (no6 ltp);have hm2:MI true g2 mb (cntF (cB bd)):=hmG.other (k2.box mb hmG.lt (no6 kmb)) (j:=0);have p52:=k2.at p5 (show g0.boxes.length ∉ [(gne g0 ds).boxes.length] by simp;omega);have k02:Kp [mb] b g0 g2:=kG'.nK k2 (by omega) hbt;refine w66_13 ⟨p,0,gok unp sip rfl h22 rfl,Z,hZ,gok uS siS rfl hZb rfl,?_⟩;refine wto hZ eZ (λs=>by have:=cBl bd s;omega) hb2 hm2 λg3 ho3 hm3=>?_;rw[cBa] at hm3⊢;have k03:Kp [mb] b g0 g3:=k02.trans (bK ho3 b);obtain⟨ed,hfs,hea⟩:=unx;have ne2:p2≠mb:=λe=>by
      obtain⟨es,c,h1,_⟩:=hm;rw[e,h1] at h2;cases h2
     have h23:g3.boxes[p2]?=_:=(ho3.get ne2).trans h22;have p53:g3.boxes[g0.boxes.length]?=_:=(ho3.get (by omega)).trans p52;have hb3:SB g3 p mb D:=hb2.one hm2 ho3;refine w116 ⟨p,0,gok unp sip rfl h23 rfl,.agg ds,htx,goa hfs szp hea p53 hd7,?_⟩;refine epr n (b:=b) (by omega) htx hoki hD hb3 hm3 (Nat.le_trans hbt k03.tlen) (by rw[List.length_append];omega) ?_;cases hr:exF l (ax (.agg ds)) (bd++ns) with
     |some q=>
      rw[hr] at hE;exact λg4 k4=>hE g4 (k03.trans k4)
     |none=>
      rw[hr] at hE;intro g4 k4 hm4;have k04:=k03.trans k4;refine⟨trivial,trivial,k04.at hb (by simpa using hne),hm4,λg5 ho5 hm5=>⟨trivial,?_⟩⟩;rw[wra (by omega)];have k05:Kp [mb] b g0 g5:=k04.trans (bK ho5 b);exact ih (k05.at h2 (by simpa using ne2)) (k05.at hb (by simpa using hne)) hm5 (Nat.le_trans hbt k05.tlen) (hE.later k05)
    -- names that an expression binds itself
    have KB:nam l k1 s1 r1 ((elO b1).map aP) i=.ok (bn k1 s1 r1 ((elO b1).map aP) i)→EvF TT 114 [.agg [.int .i64 k1,.str s1,.str r1,.int .i64 v1,a1,b1,.int .i64 q1],Dat.int IntKind.i64 i] G (KQ Qf λv g'=>∃x,Ha TT 82 x∧Rt v x∧Gu g' (gne g0 ds).boxes.length 0 1∧
      L66_13 p2 g0.boxes.length (gne g0 ds).boxes.length a1 ((elO a1).length:Int) (i:Int) (.agg [.int .i64 k1,.str s1,.str r1,.int .i64 v1,a1,b1,.int .i64 q1]) (gp g' (gne g0 ds).boxes.length 0 x) Qf):=by
     intro hnm;rw[hnm] at hE;refine bik hx (by omega) (by omega) λv z g' hv hz ez hk=>⟨z,hz,hv,?_⟩
     have z1:z.one=true:=by cases hz.sln uS with
      |inl h=>rw[h];rfl
      |inr h=>obtain⟨m,xs,h|⟨k,h⟩,_⟩:=h<;>rw[h]<;>rfl
     have p6':g'.boxes[(gne g0 ds).boxes.length]?=some (.cells [.d .nil]):=by rw[hk.boxes];exact p6
     obtain⟨w1,w2⟩:=gpu p6' z1;refine⟨w1,?_⟩;rw[w2];have ko:Oe (gne g0 ds).boxes.length g' {g' with boxes:=g'.boxes.set (gne g0 ds).boxes.length (.cells [.d z])}:=⟨_,rfl⟩
     have kk:Kp [(gne g0 ds).boxes.length] g0.toks.length G {g' with boxes:=g'.boxes.set (gne g0 ds).boxes.length (.cells [.d z])}:=(hk.kp.le (λj hj=>by cases hj) (by rw[tG];exact Nat.le_refl _)).trans (bK ko _);exact K13 kk (by simp only;rw[List.getElem?_set_self (List.getElem?_eq_some_iff.1 p6').1]) hz ez (bid ..) hE
    refine w66_10 ?_;show Br (k1==7) (Br (decide (0<(i:Int))) _ _) _;rw[naP];refine Bi.2 ⟨λq7=>Bi.2 ⟨λq0=>?_,λq0=>KB (by unfold nam;rw[q7,q0];rfl)⟩,λq7=>KB (by unfold nam;rw[q7];rfl)⟩;have c0:=of_decide_eq_true q0;have h7:(k1==7)=true:=q7;have hla:=e3.1;rw[beq_iff_eq.1 h7] at hla;have hla:=oEc hla;have ci:i≤(elO b1).length:=by omega
    obtain⟨z1,z2⟩:=paA c0 ci (by omega);refine⟨p,0,gok unp sip rfl h2G rfl,z1,?_⟩;show EvF TT 113 [.ptr (some (p,0)),gtE (elO b1) (IntKind.i64.wrap ((i:Int)-1)),_] G _;rw[z2];have hnm:nam l k1 s1 r1 ((elO b1).map aP) i=ptF l (aP ((elO b1)[i-1]'(by omega))) []:=by
     unfold nam;rw[h7,q0,List.getElem?_map,List.getElem?_eq_getElem (by omega)];rfl
    rw[hnm] at hE;have hmp:sPt (aP ((elO b1)[i-1]'(by omega)))≤szP ((elO b1).map aP):=szs (i:=i-1) (by rw[List.getElem?_map,List.getElem?_eq_getElem (by omega)];rfl);refine ptk (b:=g0.toks.length) _ (Nat.lt_succ_self _) (eu.2 _ (List.getElem_mem _)) hD hbG p6 (Gr.nil _ _) (by rw[tG];exact Nat.le_refl _) (λs h=>by cases h) (by simp only[List.length_nil];omega) ?_;cases hr:ptF l (aP ((elO b1)[i-1]'(by omega))) [] with
    |bad q=>
     rw[hr] at hE;exact λg' k'=>hE g' (kG'.nK k' (by omega) hbt)
    |ok ns=>
     rw[hr] at hE;intro g' X' x1 x2 x3 k';have hl:=paF l _ _ _ hr;simp only[List.length_nil] at hl;exact⟨trivial,K13 k' x1 (x2.ty (by omega) x3) x2.els (by omega) hE⟩
  refine w66 hx ?_;have k1g:Kp [] g.toks.length g (gne g [Dat.ptr (some (p,0))]):=kw _ _ _;have h2:=gnw g [Dat.ptr (some (p,0))];have hb1:SB (gne g [Dat.ptr (some (p,0))]) p mb D:=k1g.at hb (by simp);have hm1:MI true (gne g [Dat.ptr (some (p,0))]) mb (cntF (cB bd)):=hm.other (k1g.box mb hm.lt (by simp)) (j:=0);have kk:Kp [mb] b g (gne g [Dat.ptr (some (p,0))]):=k1g.le (λj hj=>by cases hj) hbt;have fin:EE b mb bd g Qf (eF l (nam l k1 s1 r1 ((elO b1).map aP)) (((elO a1).drop 0).map ax) 0 bd)→L66_7 g.boxes.length a1 ((elO a1).length:Int) 0 (.agg [.int .i64 k1,.str s1,.str r1,.int .i64 v1,a1,b1,.int .i64 q1]) (gne g [Dat.ptr (some (p,0))]) Qf:=
   λhE=>L7 0 (Nat.zero_le _) h2 hb1 hm1 hbt (hE.later kk)
  show Br (k1==1) _ (Br (k1==8) _ _);refine Bi.2 ⟨λq=>?_,λq=>Bi.2 ⟨λq2=>?_,λq2=>?_⟩⟩
  ·have hl1:=hm1.mlo (z:=.int .i64 0) (sK s1);rw[cnF] at hl1;refine⟨p,0,gok unp sip rfl h2 rfl,mb,hb1.map,_,_,hl1,?_⟩;rw[cBp];rw[q] at hE;have q8:(k1==8)=false:=by
    have:k1=1:=beq_iff_eq.1 q;rw[this];rfl
   refine wat (λh=>?_) λh=>⟨trivial,?_⟩
   ·have h:bd.contains s1=false:=h;rw[h] at hE;exact hE _ kk
   ·have h:bd.contains s1=true:=h;rw[h,q8] at hE;exact fin hE
  ·rw[q,q2] at hE;refine⟨p,0,gok unp sip rfl h2 rfl,cA2 hD hb1 hs1 (λh=>⟨trivial,?_⟩) λh=>?_⟩
   ·have h:coO l s1 (elO a1).length=true:=h;rw[h] at hE;exact fin hE
   ·have h:coO l s1 (elO a1).length=false:=h;rw[h] at hE;exact hE _ kk
  ·rw[q,q2] at hE;exact fin hE
end Go.Proofs.YtiheejdkkjfenaaGreatDoor.Pa
namespace Go.Proofs.YtiheejdkkjfenaaGreatDoor.Pa
open Go Go.Proofs.YtiheejdkkjfenaaGreatDoor.Am
noncomputable def c79:Code:=match recovers (bod Tryz.f64) with|some (_,c)=>c|none=>.skip
theorem dfN{p0:Nat}{g:Glob}{K:Option Dat→Glob→Prop}(h:K none g):EvL TT [(64,[.ptr (some (p0,0))])] none g K:=
 sxd (rk:=rk) (fn:=Tryz.f64) (c':=c79) (loops:=[]) (joins:=[]) (n:=100000) (d:=4) (t:=20) (args:=[(0,.ptr (some (p0,0)))]) rfl rfl (by kernel_rfl) (Nat.le_of_ble_eq_true (by kernel_rfl)) (by kernel_rfl) rfl
  ⟨.ptr _ _ (by kernel_rfl),trivial⟩ (.nilIface _ (by kernel_rfl)) (cast (by kernel_rfl) h)
theorem fau{c p:Int}:Ha TT 111 (.agg [.int .i64 c,.int .i64 p]):=stu (tys:=[33,3]) (by kernel_rfl) (by kernel_rfl) (by kernel_rfl) ⟨tyI (by kernel_rfl),tyi,trivial⟩
theorem tyf{c p:Int}:Ha TT 35 (.agg [.int .i64 c,.int .i64 p]):=stu (tys:=[33,3]) (by kernel_rfl) (by kernel_rfl) (by kernel_rfl) ⟨tyI (by kernel_rfl),tyi,trivial⟩
theorem dfS{p0:Nat}{c p:Int}{g:Glob}{K:Option Dat→Glob→Prop}(h:Gu g p0 0 2∧K none (gp g p0 0 (.agg [.int .i64 c,.int .i64 p]))):EvL TT [(64,[.ptr (some (p0,0))])] (some (flD c p)) g K:=
 sxd (rk:=rk) (fn:=Tryz.f64) (c':=c79) (loops:=[]) (joins:=[]) (n:=100000) (d:=4) (t:=20) (args:=[(0,.ptr (some (p0,0)))]) rfl rfl (by kernel_rfl) (Nat.le_of_ble_eq_true (by kernel_rfl)) (by kernel_rfl) rfl
  ⟨.ptr _ _ (by kernel_rfl),trivial⟩ (.iface _ _ _ (by kernel_rfl) fau) (cast (by kernel_rfl) h)
theorem unF:∃d,TT.und 35=some d∧ig d=true:=isA (by kernel_rfl)
theorem sia:TT.size 35=some 2:=by kernel_rfl
theorem gog{g:Glob}{i n:Nat}{ds:List Dat}{t:TypeId}{d:TypeDesc}(hu:TT.und t=some d)(hs:TT.size t=some n)(ha:ig d=true)(hb:g.boxes[i]?=some (.cells (ds.map .d)))(hn:ds.length=n):gla TT t g i 0=some (.d (.agg ds)):=by
 have hm:opA ((ds.map GV.d).map λx=>Val.isD x.v)=some ds:=by
  rw[List.map_map];have:((λx=>Val.isD x.v)∘GV.d)=(some:Dat→Option Dat):=rfl;rw[this];clear hb hn
  induction ds with
  |nil=>rfl
  |cons x ds ih=>simp only[List.map_cons,opA,ih]
 simp only[gla,hb,lV,hu,hs,ha,if_true,List.drop_zero,List.length_map];rw[if_pos (by omega),List.take_of_length_le (by simp;omega)];unfold mg;rw[List.map_map];have e:(Val.isD∘GV.v)=λx:GV=>Val.isD x.v:=rfl;rw[e,hm]
theorem pif{g:Glob}{p0:Nat}{c p:Int}(hb:g.boxes[p0]?=some (.cells ([Dat.int .i64 c,.int .i64 p].map .d))):piV TT [(35,p0,0)] g=some (.d (.agg [.int .i64 c,.int .i64 p])):=by
 obtain⟨d,h1,h2⟩:=unF;simp only[piV,List.map_cons,List.map_nil,gog h1 sia h2 hb rfl,opA,Val.toD,Option.map_some]
theorem deS{g:Glob}{p0:Nat}{cs:List GV}{c p:Int}{Qf:OGP}(hb:g.boxes[p0]?=some (.cells cs))(hl:cs.length=2)(hQ:∀g',Qf (.val (.d (.agg [.int .i64 c,.int .i64 p]))) g'):Def TT [(64,[.ptr (some (p0,0))])] [(35,p0,0)] (some (flD c p)) g Qf:=by
 obtain⟨w1,w2⟩:=gpt (ds:=[.int .i64 c,.int .i64 p]) hb hl rfl;refine dfS ⟨w1,?_⟩;rw[w2];exact⟨_,pif (by simp only;rw[List.getElem?_set_self (List.getElem?_eq_some_iff.1 hb).1]),hQ _⟩
theorem deN{g:Glob}{p0:Nat}{cs:List GV}{c p:Int}{Qf:OGP}(hb:g.boxes[p0]?=some (.cells cs))(hl:cs.length=2)(hQ:∀g',Qf (.val (.d (.agg [.int .i64 c,.int .i64 p]))) g'):
 Gu g p0 0 2∧Def TT [(64,[.ptr (some (p0,0))])] [(35,p0,0)] none (gp g p0 0 (.agg [.int .i64 c,.int .i64 p])) Qf:=by
 obtain⟨w1,w2⟩:=gpt (ds:=[.int .i64 c,.int .i64 p]) hb hl rfl;refine⟨w1,?_⟩;rw[w2];exact dfN ⟨_,pif (by simp only;rw[List.getElem?_set_self (List.getElem?_eq_some_iff.1 hb).1]),hQ _⟩
theorem rCh{P:Pg}(h:rC P=true):P.ds.length≤32∧szx P.e≤2048∧okE P.e=true∧∀d∈P.ds,d.cs.length≤32:=by
 unfold rC at h;simp only[Bool.and_eq_true,Bool.not_eq_true'] at h;obtain⟨h1,h2,h3,_,h5⟩:=h;refine⟨?_,?_,h5,λd hd=>?_⟩
 ·have:¬(32:Int)<P.ds.length:=by simpa[gtI] using h1
  omega
 ·have:¬(2048:Int)<upto 0 (szx P.e):=by simpa[gtI] using h2
  unfold upto at this
  repeat' split at this
  all_goals omega
 ·have:=(List.all_eq_true.1 h3) d hd;rw[rDe] at this;simp only[Bool.and_eq_true,Bool.not_eq_true'] at this;have:=this.2.2.1;have:¬(32:Int)<d.cs.length:=by simpa[gtI] using this
  omega
theorem alc(P:Pg):(alD P).length=3+P.ds.length:=by
 show(bas.map abD++P.ds).length=_;rw[List.length_append];rfl
theorem scp{x:Dat}{g:Glob}{Qf:OGP}(hx:Ha TT 28 x)(hp:Pre (abg x))(hQ:∀g',Qf (.val (.d (.agg [.int .i64 (cA0 (abg x)).1,.int .i64 (cA0 (abg x)).2]))) g'):EvF TT 35 [x] g Qf:=by
 refine w35 hx (pae hx hp ⟨_,rfl,?_⟩);rw[chP];have hb:=gnw g [Dat.int IntKind.i64 0,Dat.int IntKind.i64 0];unfold cA0 at hQ;refine Bi.2 ⟨λq=>?_,λq=>?_⟩
 ·have q:rC (abg x)=false:=by simpa using q
  rw[q] at hQ;have hQ:∀g',Qf (.val (.d (.agg [.int .i64 1,.int .i64 0]))) g':=hQ;obtain⟨w1,w2⟩:=gpt (ds:=[Dat.int IntKind.i64 1,Dat.int IntKind.i64 0]) hb rfl rfl;refine⟨w1,_,tyf,?_,hQ _⟩;obtain⟨d,h1,h2⟩:=unF;rw[w2];exact goa h1 sia h2 (by simp only;rw[List.getElem?_set_self (List.getElem?_eq_some_iff.1 hb).1]) rfl
 have q:rC (abg x)=true:=by simpa using q
 rw[q] at hQ;obtain⟨f1,f2,f3,f4⟩:=rCh q;generalize hg1:gne g [Dat.int IntKind.i64 0,Dat.int IntKind.i64 0]=g1 at hb⊢;have hl1:g.boxes.length<g1.boxes.length:=by rw[←hg1,gnl];omega
 refine sco x g1 hx (by omega) _ λD hD hDl v hv=>⟨D,hD,hv,?_⟩
 have dl:DL D (alD (abg x)):=⟨hD,hDl⟩
 generalize hG:gne (gmn g1) [D,Dat.map (some g1.boxes.length)]=G;have kG:Kp [] g1.toks.length g1 G:=by rw[←hG];exact(kpg _ _).trans (kw _ _ _)
 have bxG:SB G (gmn g1).boxes.length g1.boxes.length D:=by
  have:=gnw (gmn g1) [D,Dat.map (some g1.boxes.length)];rw[hG] at this;exact this
 have hbG:=kG.at hb (by simp);have mG:MI true G g1.boxes.length (cntF (cB [])):=by
  have e0:(λ_:Dat=>(none:Option Dat))=cntF (cB []):=by funext k;cases k<;>simp[cntF,cB]
  have mn:=mas true g1;rw[e0] at mn;refine mn.other ?_ (j:=0);rw[←hG];exact gno _ (by rw[gme];omega)
 have flt:∀{c q:Int} {g':Glob},Kp [g1.boxes.length] G.toks.length G g'→(∀g',Qf (.val (.d (.agg [.int .i64 c,.int .i64 q]))) g')→Def TT [(64,[.ptr (some (g.boxes.length,0))])] [(35,g.boxes.length,0)] (some (flD c q)) g' Qf:=
  λk h=>deS (k.at hbG (by simp;omega)) rfl h
 have up:∀{g'},Kp [] G.toks.length G g'→Kp [g1.boxes.length] G.toks.length G g':=λk=>k.le (λj hj=>by cases hj) (Nat.le_refl _);unfold chN at hQ;refine dea (l:=alD (abg x)) dl bxG (by rw[alc];omega) (λd hd=>?_) ?_
 ·rcases List.mem_append.1 (show d∈bas.map abD++(abg x).ds from hd) with h|h
  ·have:∀d∈bas.map abD,d.cs.length≤32:=by decide
   have:=this d h;omega
  ·have:=f4 d h;omega
 rw[pBl,fiT];cases e1:fB (bas.map abD) (abg x).ds with
 |some q=>
  rw[e1] at hQ;have hQ:∀g',Qf (.val (.d (.agg [.int .i64 141,.int .i64 q]))) g':=hQ;exact λg' k=>flt (up k) hQ
 |none=>
  rw[e1] at hQ;simp only at hQ⊢;cases e2:fir (alD (abg x)) (abg x).ds with
  |some q=>
   rw[e2] at hQ;have hQ:∀g',Qf (.val (.d (.agg [.int .i64 141,.int .i64 q]))) g':=hQ;exact λg' k=>flt (up k) hQ
  |none=>
   rw[e2] at hQ;simp only at hQ;intro g' k;refine⟨trivial,?_⟩;obtain⟨d1,k1,s1,r1,n1,a1,b1,p1,rfl,hd1,he1⟩:=pro hx;have ee:(abg (.agg [d1,.int .i64 k1,.str s1,.str r1,.int .i64 n1,a1,b1,.int .i64 p1])).e=ax (.agg [.int .i64 k1,.str s1,.str r1,.int .i64 n1,a1,b1,.int .i64 p1]):=rfl;rw[ee] at hQ f2 f3;show EvF TT 66 [_,.agg [.int .i64 k1,.str s1,.str r1,.int .i64 n1,a1,b1,.int .i64 p1]] g' _;refine epr (b:=G.toks.length) (l:=alD (abg (.agg [d1,.int .i64 k1,.str s1,.str r1,.int .i64 n1,a1,b1,.int .i64 p1]))) (bd:=[]) _ (Nat.lt_succ_self _) he1 f3 dl (k.at bxG (by simp)) (mG.other (k.box _ mG.lt (by simp)) (j:=0)) k.tlen (by simp only[List.length_nil];omega) ?_;cases e3:exF (alD (abg (.agg [d1,.int .i64 k1,.str s1,.str r1,.int .i64 n1,a1,b1,.int .i64 p1]))) (ax (.agg [.int .i64 k1,.str s1,.str r1,.int .i64 n1,a1,b1,.int .i64 p1])) [] with
   |some q=>
    rw[e3] at hQ;have hQ:∀g',Qf (.val (.d (.agg [.int .i64 140,.int .i64 q]))) g':=hQ;exact λg2 k2=>flt ((up k).trans k2) hQ
   |none=>
    rw[e3] at hQ;have hQ:∀g',Qf (.val (.d (.agg [.int .i64 0,.int .i64 0]))) g':=hQ;intro g2 k2 _;exact⟨trivial,deN (((up k).trans k2).at hbG (by simp;omega)) rfl hQ⟩
end Go.Proofs.YtiheejdkkjfenaaGreatDoor.Pa
