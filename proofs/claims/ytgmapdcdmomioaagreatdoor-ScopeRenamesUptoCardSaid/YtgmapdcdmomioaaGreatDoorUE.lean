/- Scope: the law ScopeFree. Scope: which names are wrong first, told plainly. What functions of the program do, printed by wip/tools/sx/sx.py. Scope: the program's look at declared types. -/
import Derived.Test.YtgmapdcdmomioaaGreatDoorUA
import Derived.Test.YtgmapdcdmomioaaGreatDoorRE
import Derived.Test.YtgmapdcdmomioaaGreatDoorRI
import Derived.Test.YtgmapdcdmomioaaGreatDoorRV
set_option linter.all false
set_option autoImplicit false
set_option maxRecDepth 100000
namespace Go.Proofs.YtgmapdcdmomioaaGreatDoor.Pa
open Go Go.Proofs.YtgmapdcdmomioaaGreatDoor.Am
theorem small_ok{x:Dat}{g:Glob}{Qf:OGP}(hx:HasTy TT 27 x)(hQ:∀b:Bool,(b=true→szEx (absEx x)≤1200)→Qf (.val (.d (.bool b))) g):EvF TT 38 [x] g Qf:=by
 obtain⟨k1,s1,r1,v1,a1,b1,p1,rfl,hs1,hr1,t1,u1⟩:=expr_ty hx
 refine w38 hx (refSize_ok _ g (ty_prog (.nil _ (by rw[undDecls];rfl)) hx) _ ⟨_,rfl,hQ _ λh=>?_⟩)
 have h:=of_decide_eq_true h
 have e:(absPg (.agg [Dat.nil,.int .i64 k1,.str s1,.str r1,.int .i64 v1,a1,b1,.int .i64 p1])).e=absEx (.agg [.int .i64 k1,.str s1,.str r1,.int .i64 v1,a1,b1,.int .i64 p1]):=rfl
 have h:upto 0 (szEx (absPg (.agg [Dat.nil,.int .i64 k1,.str s1,.str r1,.int .i64 v1,a1,b1,.int .i64 p1])).e)≤1200:=h
 rw[e] at h
 unfold upto at h
 repeat' split at h
 all_goals omega
end Go.Proofs.YtgmapdcdmomioaaGreatDoor.Pa
namespace Go.Proofs.YtgmapdcdmomioaaGreatDoor.Pa
open Go Go.Proofs.YtgmapdcdmomioaaGreatDoor.Am
def cnFs(s:Str):List Cn→Option Nat
 |[]=>none
 |c::l=>bif c.s==s then some c.fs.length else cnFs s l
def dcFs(s:Str):List Dc→Option Nat
 |[]=>none
 |d::l=>match cnFs s d.cs with
  |some n=>some n
  |none=>dcFs s l
def dcPs(s:Str):List Dc→Option Nat
 |[]=>none
 |d::l=>bif d.s==s then some d.ps.length else dcPs s l
def declIx(s:Str):List Dc→Int→Int
 |[],_=>-1
 |d::l,i=>bif d.s==s then i else declIx s l (i+1)
theorem findCn_spec(s:Str):∀(l:List Cn) (i:Int),(∃(k:Nat) (c:Cn),findCn s l i=some (i+k)∧l[k]?=some c∧cnFs s l=some c.fs.length)∨(findCn s l i=none∧cnFs s l=none)
 |[],i=>.inr ⟨rfl,rfl⟩
 |c::l,i=>by
  cases h:c.s==s with
  |true=>exact .inl ⟨0,c,by simp[findCn,h],rfl,by simp[cnFs,h]⟩
  |false=>
   rcases findCn_spec s l (i+1) with ⟨k,c',h1,h2,h3⟩|⟨h1,h2⟩
   ·exact .inl ⟨k+1,c',by simp only[findCn,h,cond_false,h1];congr 1;omega,by simpa using h2,by simp[cnFs,h,h3]⟩
   ·exact .inr ⟨by simp[findCn,h,h1],by simp[cnFs,h,h2]⟩
theorem findDc_spec(s:Str):∀(l:List Dc) (i:Int),(∃(k j:Nat) (d:Dc) (c:Cn),findDc s l i=(i+k,(j:Int),true)∧l[k]?=some d∧d.cs[j]?=some c∧dcFs s l=some c.fs.length)∨(findDc s l i=(0,0,false)∧dcFs s l=none)
 |[],i=>.inr ⟨rfl,rfl⟩
 |d::l,i=>by
  rcases findCn_spec s d.cs 0 with ⟨k,c,h1,h2,h3⟩|⟨h1,h2⟩
  ·exact .inl ⟨0,k,d,c,by simp[findDc,h1],rfl,h2,by simp[dcFs,h3]⟩
  ·rcases findDc_spec s l (i+1) with ⟨k,j,d',c',q1,q2,q3,q4⟩|⟨q1,q2⟩
   ·exact .inl ⟨k+1,j,d',c',by simp only[findDc,h1,q1];congr 1;omega,by simpa using q2,q3,by simp[dcFs,h2,q4]⟩
   ·exact .inr ⟨by simp[findDc,h1,q1],by simp[dcFs,h2,q2]⟩
theorem declIx_spec(s:Str):∀(l:List Dc) (i:Nat),(∃(k:Nat) (d:Dc),declIx s l i=((i+k:Nat):Int)∧l[k]?=some d∧dcPs s l=some d.ps.length)∨(declIx s l i=-1∧dcPs s l=none)
 |[],i=>.inr ⟨rfl,rfl⟩
 |d::l,i=>by
  cases h:d.s==s with
  |true=>exact .inl ⟨0,d,by simp[declIx,h],rfl,by simp[dcPs,h]⟩
  |false=>
   rcases declIx_spec s l (i+1) with ⟨k,d',h1,h2,h3⟩|⟨h1,h2⟩
   ·refine .inl ⟨k+1,d',?_,by simpa using h2,by simp[dcPs,h,h3]⟩
    simp only[declIx,h,cond_false]
    rw[show((i:Int)+1)=((i+1:Nat):Int) from by omega,h1]
    omega
   ·refine .inr ⟨?_,by simp[dcPs,h,h2]⟩
    simp only[declIx,h,cond_false]
    rw[show((i:Int)+1)=((i+1:Nat):Int) from by omega,h1]
def dupS(acc:List Str):List Str→Bool
 |[]=>false
 |x::xs=>acc.contains x||dupS (acc++[x]) xs
def consBad(bf:List Dc)(acc:List Str):List Cn→Bool
 |[]=>false
 |c::cs=>(dcFs c.s bf).isSome||(acc.contains c.s||consBad bf (acc++[c.s]) cs)
def sInt:Str:=[105,110,116]
def declBad(bf:List Dc)(d:Dc):Bool:=d.s==sInt||(bf.any (λe=>e.s==d.s)||(dupS [] d.ps||consBad bf [] d.cs))
def firstBad(bf:List Dc):List Dc→Option Int
 |[]=>none
 |d::ds=>bif declBad bf d then some d.p else firstBad (bf++[d]) ds
mutual
def typedT(l:List Dc)(ps:List Str):Ty→Bool
 |.mk k s _ a=>bif k==2 then ps.contains s else bif k==4 then(match dcPs s l with|none=>false|some m=>m==a.length&&typedTs l ps a) else typedTs l ps a
def typedTs(l:List Dc)(ps:List Str):List Ty→Bool
 |[]=>true
 |t::ts=>typedT l ps t&&typedTs l ps ts
end
def consTy(l:List Dc)(ps:List Str):List Cn→Bool
 |[]=>true
 |c::cs=>typedTs l ps c.fs&&consTy l ps cs
def firstTy(l:List Dc):List Dc→Option Int
 |[]=>none
 |d::ds=>bif consTy l d.ps d.cs then firstTy l ds else some d.p
def conOk(l:List Dc)(s:Str)(n:Nat):Bool:=dcFs s l==some n
inductive PR where
 |bad (p:Int)
 |ok (l:List Str)
mutual
def patF(l:List Dc):Pt→List Str→PR
 |.mk k s _ a p,ns=>bif k==2 then(bif ns.contains s then .bad p else patFs l a (ns++[s])) else bif k==4&&!(conOk l s a.length) then .bad p else patFs l a ns
def patFs(l:List Dc):List Pt→List Str→PR
 |[],ns=>.ok ns
 |x::xs,ns=>match patF l x ns with
  |.bad p=>.bad p
  |.ok ns'=>patFs l xs ns'
end
def namesAt(l:List Dc)(k:Int)(s r:Str)(b:List Pt)(i:Nat):PR:=
 bif k==7&&decide (0<i) then(match b[i-1]? with|some x=>patF l x []|none=>.ok []) else .ok (bindsOf k s r b i)
mutual
def exprF(l:List Dc):Ex'→List Str→Option Int
 |.mk k s r _ a b p,bd=>bif k==1&&!(bd.contains s) then some p else bif k==8&&!(conOk l s a.length) then some p else exprFs l (namesAt l k s r b) a 0 bd
def exprFs(l:List Dc)(nm:Nat→PR):List Ex'→Nat→List Str→Option Int
 |[],_,_=>none
 |x::xs,i,bd=>match nm i with
  |.bad p=>some p
  |.ok ns=>match exprF l x (bd++ns) with
   |some p=>some p
   |none=>exprFs l nm xs (i+1) bd
end
def chkNames(P:Pg):Int×Int:=
 match firstBad (baseL.map absDc) P.ds with
 |some p=>(141,p)
 |none=>match firstTy (allDc P) P.ds with
  |some p=>(141,p)
  |none=>match exprF (allDc P) P.e [] with
   |some p=>(140,p)
   |none=>(0,0)
def chk14(P:Pg):Int×Int:=bif rCheckP P then chkNames P else(1,0)
def consF(sc:List Str):List Cn→Option (List Str)
 |[]=>some sc
 |c::cs=>bif sc.contains c.s then none else consF (sc++[c.s]) cs
def pBad(st sc:List Str):List Dc→Option Int
 |[]=>none
 |d::ds=>bif st.contains d.s then some d.p else bif dupS [] d.ps then some d.p else match consF sc d.cs with
  |none=>some d.p
  |some sc'=>pBad (st++[d.s]) sc' ds
theorem beq_sym(a b:Str):(a==b)=(b==a):=by rw[Bool.eq_iff_iff,beq_iff_eq,beq_iff_eq];exact⟨Eq.symm,Eq.symm⟩
theorem any_names(bf:List Dc)(s:Str):bf.any (λe=>e.s==s)=(bf.map (·.s)).contains s:=by
 induction bf with
 |nil=>rfl
 |cons e bf ih=>rw[List.any_cons,List.map_cons,List.contains_cons,ih,beq_sym]
theorem cnFs_mem(s:Str)(l:List Cn):(cnFs s l).isSome=(l.map (·.s)).contains s:=by
 induction l with
 |nil=>rfl
 |cons c l ih=>
  rw[List.map_cons,List.contains_cons,←ih]
  rw[beq_sym s c.s]
  cases h:c.s==s<;>simp[cnFs,h]
def conNames(l:List Dc):List Str:=l.flatMap λd=>d.cs.map (·.s)
theorem dcFs_mem(s:Str)(l:List Dc):(dcFs s l).isSome=(conNames l).contains s:=by
 induction l with
 |nil=>rfl
 |cons d l ih=>
  have:conNames (d::l)=d.cs.map (·.s)++conNames l:=by simp[conNames]
  rw[this,List.contains_append,←ih,←cnFs_mem]
  show(match cnFs s d.cs with|some n=>some n|none=>dcFs s l).isSome=_
  cases cnFs s d.cs<;>simp
theorem contains_app'(a b:List Str)(s:Str):(a++b).contains s=(a.contains s||b.contains s):=List.contains_append ..
theorem consF_spec(bf:List Dc)(sc:List Str)(hc:∀s,sc.contains s=(conNames bf).contains s):∀(cs:List Cn) (acc:List Str),consF (sc++acc) cs=if consBad bf acc cs then none else some (sc++acc++cs.map (·.s))
 |[],acc=>by simp[consF,consBad]
 |c::cs,acc=>by
  have ih:=consF_spec bf sc hc cs (acc++[c.s])
  unfold consF consBad
  rw[contains_app',hc,dcFs_mem,List.append_assoc,ih]
  cases (conNames bf).contains c.s<;>cases acc.contains c.s<;>simp
theorem pBad_spec:∀(ds bf:List Dc) (st sc:List Str),(∀s,st.contains s=(s==sInt||(bf.map (·.s)).contains s))→(∀s,sc.contains s=(conNames bf).contains s)→pBad st sc ds=firstBad bf ds
 |[],bf,st,sc,_,_=>rfl
 |d::ds,bf,st,sc,h1,h2=>by
  unfold pBad firstBad declBad
  have e1:=any_names bf d.s
  have hcf:=consF_spec bf sc h2 d.cs []
  rw[List.append_nil] at hcf
  rw[h1,hcf,e1]
  have key:consBad bf [] d.cs=false→pBad (st++[d.s]) (sc++d.cs.map (·.s)) ds=firstBad (bf++[d]) ds:=λhb=>by
   refine pBad_spec ds (bf++[d]) _ _ (λs=>?_) (λs=>?_)
   ·rw[contains_app',h1,List.map_append,contains_app',Bool.or_assoc]
    rfl
   ·have:conNames (bf++[d])=conNames bf++d.cs.map (·.s):=by simp[conNames]
    rw[this,contains_app',contains_app',h2]
  cases d.s==sInt<;>cases (bf.map (·.s)).contains d.s<;>cases dupS [] d.ps<;>cases hE:consBad bf [] d.cs<;>first|rfl|exact key hE
theorem firstBad_app:∀(a b bf:List Dc),firstBad bf a=none→firstBad bf (a++b)=firstBad (bf++a) b
 |[],b,bf,_=>by simp
 |d::a,b,bf,h=>by
  unfold firstBad at h
  cases hd:declBad bf d with
  |true=>rw[hd] at h;cases h
  |false=>
   rw[hd] at h
   have:=firstBad_app a b (bf++[d]) h
   show(bif declBad bf d then some d.p else firstBad (bf++[d]) (a++b))=_
   rw[hd,cond_false,this,List.append_assoc]
   rfl
theorem base_good:firstBad [] (baseL.map absDc)=none:=by decide
theorem pBad_all(P:Pg):pBad [sInt] [] (allDc P)=firstBad (baseL.map absDc) P.ds:=by
 rw[pBad_spec (allDc P) [] [sInt] [] (λs=>rfl) (λs=>rfl)]
 unfold allDc
 rw[firstBad_app _ _ _ base_good,List.nil_append]
theorem firstTy_all(P:Pg):firstTy (allDc P) (allDc P)=firstTy (allDc P) P.ds:=by
 have h:∀l:List Dc,l=allDc P→firstTy l (allDc P)=firstTy l P.ds:=λl hl=>by
  have hp:dcPs [108,105,115,116] l=some 1:=by rw[hl];rfl
  show firstTy l (baseL.map absDc++P.ds)=_
  have e:baseL.map absDc=[⟨[117,110,105,116],[],[⟨[85,110,105,116],[]⟩],0⟩,⟨[98,111,111,108],[],[⟨[70,97,108,115,101],[]⟩,⟨[84,114,117,101],[]⟩],0⟩,
   ⟨[108,105,115,116],[[97]],[⟨[78,105,108],[]⟩,⟨[67,111,110,115],[.mk 2 [97] 0 [],.mk 4 [108,105,115,116] 0 [.mk 2 [97] 0 []]]⟩],0⟩]:=rfl
  rw[e]
  simp[firstTy,consTy,typedTs,typedT,hp]
 exact h _ rfl
end Go.Proofs.YtgmapdcdmomioaaGreatDoor.Pa
namespace Go.Proofs.YtgmapdcdmomioaaGreatDoor.Pa
open Go Go.Proofs.YtgmapdcdmomioaaGreatDoor.Am
def lo145:List CutI:=[]
theorem w145{b0:Bool}{n1:Int}{n2:Int}{g:Glob}{Qf:OGP}
 (h:Br (!b0) (Qf (.panic (.iface 106 (.agg [.int .i64 (intOf (.int .i64 n1)),.int .i64 (intOf (.int .i64 n2))]))) g) (Qf (.val (.tuple [])) g)):
 EvF TT 145 [.bool b0,.int .i64 n1,.int .i64 n2] g Qf:=
 sx_fun (rk:=rk) (fn:=Tryz.f145) (loops:=lo145) (joins:=[]) (n:=100000) (args:=[(4,.bool b0),(30,.int .i64 n1),(3,.int .i64 n2)]) rfl rfl rfl rfl ⟨tyBool rfl,tyInt rfl,tyInt rfl,trivial⟩ (by kernel_rfl) h
def lo146:List CutI:=[]
theorem w146{x0:Dat}{s1:List UInt8}{g:Glob}{Qf:OGP}(h0:HasTy TT 61 x0)(h1:s1.length≤2^40)
 (h:EvF TT 204 [x0,.str s1] g (KQ Qf λv g'=>∃n,v=.d (.int .i64 n)∧Qf (.val (.d (.bool (decide (0≤n))))) g')):
 EvF TT 146 [x0,.str s1] g Qf:=
 sx_fun (rk:=rk) (fn:=Tryz.f146) (loops:=lo146) (joins:=[]) (n:=100000) (args:=[(61,x0),(9,.str s1)]) rfl rfl rfl rfl ⟨h0,tyStr rfl h1,trivial⟩ (by kernel_rfl) h
def L204_2(x0:Dat)(s1:List UInt8)(n7:Int)(n8:Int)(g:Glob)(Qf:OGP):Prop:=CutP TT Tryz.f204 [1,0,1,0] Qf (mkC TT 204 Tryz.f204 2 [(0,.v 61 (x0)),(1,.v 9 (.str s1)),(7,.v 3 (.int .i64 n7)),(8,.v 3 (.int .i64 n8))] [] g)
def lo204:List CutI:=[⟨2,[(0,.keep),(1,.keep),(7,.keep),(8,.keep)],[]⟩]
theorem w204{x0:Dat}{s1:List UInt8}{g:Glob}{Qf:OGP}(h0:HasTy TT 61 x0)(h1:s1.length≤2^40)
 (h:L204_2 x0 s1 (↑(elsOf x0).length:Int) 0 g Qf):
 EvF TT 204 [x0,.str s1] g Qf:=
 sx_fun (rk:=rk) (fn:=Tryz.f204) (loops:=lo204) (joins:=[]) (n:=100000) (args:=[(61,x0),(9,.str s1)]) rfl rfl rfl rfl ⟨h0,tyStr rfl h1,trivial⟩ (by kernel_rfl) h
theorem w204_2{x0:Dat}{s1:List UInt8}{n7:Int}{n8:Int}{g:Glob}{Qf:OGP}
 (h:Br (decide (n8<n7)) (InB n8 (elsOf x0).length∧Br (s1==strOf (fld (getE (elsOf x0) n8) 0)) (Qf (.val (.d (.int .i64 n8))) g) (L204_2 x0 s1 n7 (IntKind.i64.wrap (n8+1)) g Qf)) (Qf (.val (.d (.int .i64 (-1)))) g)):
 L204_2 x0 s1 n7 n8 g Qf:=sx_cut (rk:=rk) (loops:=lo204) (joins:=[]) (n:=100000) (by kernel_rfl) h
def lo205:List CutI:=[]
theorem w205{x0:Dat}{p1:Nat}{g:Glob}{Qf:OGP}(h0:HasTy TT 76 x0)
 (h:∃s,s.length.le 1099511627776∧GOk TT 9 g p1 1 (.str s)∧Qf (.val (.d (.bool (strOf (fld x0 0)==s)))) g):
 EvF TT 205 [x0,.ptr (some (p1,0))] g Qf:=
 sx_fun (rk:=rk) (fn:=Tryz.f205) (loops:=lo205) (joins:=[]) (n:=100000) (args:=[(76,x0),(0,.ptr (some (p1,0)))]) rfl rfl rfl rfl ⟨h0,tyPtr0 rfl,trivial⟩ (by kernel_rfl) h
def lo206:List CutI:=[]
theorem w206{x0:Dat}{p1:Nat}{p2:Nat}{g:Glob}{Qf:OGP}(h0:HasTy TT 94 x0)
 (h:∃i o,GOk TT 107 g p1 0 (.ptr (some (i,o)))∧∃x,HasTy TT 76 x∧GOk TT 76 g p2 0 x∧EvF TT 147 [.ptr (some (i,o)),x0,x] g (KQ Qf λv g'=>∃b,v=.d (.bool b)∧Qf (.val (.d (.bool !b))) g')):
 EvF TT 206 [x0,.ptr (some (p1,0)),.ptr (some (p2,0))] g Qf:=
 sx_fun (rk:=rk) (fn:=Tryz.f206) (loops:=lo206) (joins:=[]) (n:=100000) (args:=[(94,x0),(0,.ptr (some (p1,0))),(0,.ptr (some (p2,0)))]) rfl rfl rfl rfl ⟨h0,tyPtr0 rfl,tyPtr0 rfl,trivial⟩ (by kernel_rfl) h
def L147_1(p3:Nat)(p4:Nat)(p5:Nat)(g:Glob)(Qf:OGP):Prop:=CutP TT Tryz.f147 [1] Qf (mkC TT 147 Tryz.f147 3 [(3,.v 0 (.ptr (some (p3,0)))),(4,.v 0 (.ptr (some (p4,0)))),(5,.v 0 (.ptr (some (p5,0))))] [] g)
def L147_8(p3:Nat)(p4:Nat)(p5:Nat)(g:Glob)(Qf:OGP):Prop:=CutP TT Tryz.f147 [1,1] Qf (mkC TT 147 Tryz.f147 3 [(3,.v 0 (.ptr (some (p3,0)))),(4,.v 0 (.ptr (some (p4,0)))),(5,.v 0 (.ptr (some (p5,0))))] [] g)
def lo147:List CutI:=[]
def jo147:List CutI:=[⟨1,[(3,.keep),(4,.keep),(5,.keep)],[]⟩,⟨8,[(3,.keep),(4,.keep),(5,.keep)],[]⟩]
theorem w147{p0:Nat}{x1:Dat}{x2:Dat}{g:Glob}{Qf:OGP}(h1:HasTy TT 94 x1)(h2:HasTy TT 76 x2)
 (h:L147_1 g.boxes.length (gnew g [.ptr (some (p0,0))]).boxes.length (gnew (gnew g [.ptr (some (p0,0))]) [.int .i64 (intOf (fld x1 0)),.str (strOf (fld x1 1)),.int .i64 (intOf (fld x1 2)),fld x1 3]).boxes.length (gnew (gnew (gnew g [.ptr (some (p0,0))]) [.int .i64 (intOf (fld x1 0)),.str (strOf (fld x1 1)),.int .i64 (intOf (fld x1 2)),fld x1 3]) [.str (strOf (fld x2 0)),fld x2 1,fld x2 2,.int .i64 (intOf (fld x2 3))]) Qf):
 EvF TT 147 [.ptr (some (p0,0)),x1,x2] g Qf:=
 sx_fun (rk:=rk) (fn:=Tryz.f147) (loops:=lo147) (joins:=jo147) (n:=100000) (args:=[(107,.ptr (some (p0,0))),(94,x1),(76,x2)]) rfl rfl rfl rfl ⟨tyPtr rfl,h1,h2,trivial⟩ (by kernel_rfl) h
theorem w147_1{p3:Nat}{p4:Nat}{p5:Nat}{g:Glob}{Qf:OGP}
 (h:∃n,GOk TT 3 g p4 0 (.int .i64 n)∧Br (n==2) (∃x,HasTy TT 61 x∧GOk TT 61 g p5 1 x∧∃s,s.length.le 1099511627776∧GOk TT 9 g p4 1 (.str s)∧EvF TT 146 [x,.str s] g (KQ Qf λv g'=>∃b,v=.d (.bool b)∧Qf (.val (.d (.bool b))) g')) (Br (n==4) (∃i o,GOk TT 107 g p3 0 (.ptr (some (i,o)))∧∃x,HasTy TT 23 x∧GOk TT 23 g i (o+0) x∧EvF TT 135 [x,.clo 205 [.ptr (some (p4,0))]] g (KQ Qf λv g'=>∃n,v=.d (.int .i64 n)∧Br (decide (n<0)) (Qf (.val (.d (.bool false))) g') (∃i o,GOk TT 107 g' p3 0 (.ptr (some (i,o)))∧∃x,HasTy TT 23 x∧GOk TT 23 g' i (o+0) x∧InB n (elsOf x).length∧∃x_1,HasTy TT 89 x_1∧GOk TT 89 g' p4 3 x_1∧Br ((↑(elsOf (fld (getE (elsOf x) n) 1)).length:Int)!=(↑(elsOf x_1).length:Int)) (Qf (.val (.d (.bool false))) g') (L147_8 p3 p4 p5 g' Qf)))) (L147_8 p3 p4 p5 g Qf))):
 L147_1 p3 p4 p5 g Qf:=sx_cut (rk:=rk) (loops:=lo147) (joins:=jo147) (n:=100000) (by kernel_rfl) h
theorem w147_8{p3:Nat}{p4:Nat}{p5:Nat}{g:Glob}{Qf:OGP}
 (h:∃x,HasTy TT 89 x∧GOk TT 89 g p4 3 x∧EvF TT 137 [x,.clo 206 [.ptr (some (p3,0)),.ptr (some (p5,0))]] g (KQ Qf λv g'=>∃b,v=.d (.bool b)∧Qf (.val (.d (.bool !b))) g')):
 L147_8 p3 p4 p5 g Qf:=sx_cut (rk:=rk) (loops:=lo147) (joins:=jo147) (n:=100000) (by kernel_rfl) h
def lo148:List CutI:=[]
theorem w148{p0:Nat}{s1:List UInt8}{n2:Int}{n3:Int}{g:Glob}{Qf:OGP}(h1:s1.length≤2^40)
 (h:∃x,HasTy TT 23 x∧GOk TT 23 g p0 0 x∧EvF TT 34 [x,.str s1] g (KQ Qf λv g'=>∃n n_1 b,RetT v [.int .i64 n,.int .i64 n_1,.bool b]∧Br b (∃x,HasTy TT 23 x∧GOk TT 23 g' p0 0 x∧InB n (elsOf x).length∧InB n_1 (elsOf (fld (getE (elsOf x) n) 2)).length∧EvF TT 145 [.bool ((↑(elsOf (fld (getE (elsOf (fld (getE (elsOf x) n) 2)) n_1) 1)).length:Int)==n2),.int .i64 140,.int .i64 n3] g' (KQ Qf λv g'=>RetT v []∧Qf (.val (.tuple [])) g')) (EvF TT 145 [.bool false,.int .i64 140,.int .i64 n3] g' (KQ Qf λv g'=>RetT v []∧Qf (.val (.tuple [])) g')))):
 EvF TT 148 [.ptr (some (p0,0)),.str s1,.int .i64 n2,.int .i64 n3] g Qf:=
 sx_fun (rk:=rk) (fn:=Tryz.f148) (loops:=lo148) (joins:=[]) (n:=100000) (args:=[(107,.ptr (some (p0,0))),(9,.str s1),(3,.int .i64 n2),(3,.int .i64 n3)]) rfl rfl rfl rfl ⟨tyPtr rfl,tyStr rfl h1,tyInt rfl,tyInt rfl,trivial⟩ (by kernel_rfl) h
def L149_8(p0:Nat)(p2:Nat)(x43:Dat)(n44:Int)(n45:Int)(g:Glob)(Qf:OGP):Prop:=CutP TT Tryz.f149 [1,1,1,0] Qf (mkC TT 149 Tryz.f149 3 [(0,.v 107 (.ptr (some (p0,0)))),(2,.v 166 (.ptr (some (p2,0)))),(43,.v 25 (x43)),(44,.v 3 (.int .i64 n44)),(45,.v 3 (.int .i64 n45))] [] g)
def lo149:List CutI:=[⟨8,[(0,.keep),(2,.keep),(43,.keep),(44,.keep),(45,.keep)],[]⟩]
theorem w149{p0:Nat}{x1:Dat}{p2:Nat}{g:Glob}{Qf:OGP}(h1:HasTy TT 127 x1)
 (h:Br (intOf (fld x1 0)==2) (∃x,HasTy TT 61 x∧GOk TT 61 g p2 0 x∧EvF TT 146 [x,.str (strOf (fld x1 1))] g (KQ Qf λv g'=>∃b,v=.d (.bool b)∧EvF TT 145 [.bool !b,.int .i64 140,.int .i64 (intOf (fld x1 4))] g' (KQ Qf λv g'=>RetT v []∧∃x,HasTy TT 61 x∧GOk TT 61 g' p2 0 x∧GSame TT 61 p2 0 g' (gtok g' 1 1)∧Fits ((elsOf x).length+[Dat.str (strOf (fld x1 1))].length) 16∧∃r g'_1,gapp 1 x [.str (strOf (fld x1 1))] (gtok g' 1 1)=some (r,g'_1)∧GPut g'_1 p2 0 1∧L149_8 p0 p2 (fld x1 3) (↑(elsOf (fld x1 3)).length:Int) 0 (gput g'_1 p2 0 r) Qf))) (Br (intOf (fld x1 0)==4) (EvF TT 148 [.ptr (some (p0,0)),.str (strOf (fld x1 1)),.int .i64 (↑(elsOf (fld x1 3)).length:Int),.int .i64 (intOf (fld x1 4))] g (KQ Qf λv g'=>RetT v []∧L149_8 p0 p2 (fld x1 3) (↑(elsOf (fld x1 3)).length:Int) 0 g' Qf)) (L149_8 p0 p2 (fld x1 3) (↑(elsOf (fld x1 3)).length:Int) 0 g Qf))):
 EvF TT 149 [.ptr (some (p0,0)),x1,.ptr (some (p2,0))] g Qf:=
 sx_fun (rk:=rk) (fn:=Tryz.f149) (loops:=lo149) (joins:=[]) (n:=100000) (args:=[(107,.ptr (some (p0,0))),(127,x1),(166,.ptr (some (p2,0)))]) rfl rfl rfl rfl ⟨tyPtr rfl,h1,tyPtr rfl,trivial⟩ (by kernel_rfl) h
theorem w149_8{p0:Nat}{p2:Nat}{x43:Dat}{n44:Int}{n45:Int}{g:Glob}{Qf:OGP}
 (h:Br (decide (n45<n44)) (InB n45 (elsOf x43).length∧EvF TT 149 [.ptr (some (p0,0)),getE (elsOf x43) n45,.ptr (some (p2,0))] g (KQ Qf λv g'=>RetT v []∧L149_8 p0 p2 x43 n44 (IntKind.i64.wrap (n45+1)) g' Qf)) (Qf (.val (.tuple [])) g)):
 L149_8 p0 p2 x43 n44 n45 g Qf:=sx_cut (rk:=rk) (loops:=lo149) (joins:=[]) (n:=100000) (by kernel_rfl) h
def lo150:List CutI:=[]
theorem w150{p0:Nat}{p1:Nat}{g:Glob}{Qf:OGP}
 (h:∃i o,GOk TT 107 g p0 0 (.ptr (some (i,o)))∧∃x,HasTy TT 27 x∧GOk TT 27 g p1 0 x∧EvF TT 81 [.ptr (some (i,o)),x] g (KQ Qf λv g'=>RetT v []∧Qf (.val (.tuple [])) g')):
 EvF TT 150 [.ptr (some (p0,0)),.ptr (some (p1,0))] g Qf:=
 sx_fun (rk:=rk) (fn:=Tryz.f150) (loops:=lo150) (joins:=[]) (n:=100000) (args:=[(0,.ptr (some (p0,0))),(0,.ptr (some (p1,0)))]) rfl rfl rfl rfl ⟨tyPtr0 rfl,tyPtr0 rfl,trivial⟩ (by kernel_rfl) h
def L81_7(p2:Nat)(x34:Dat)(n35:Int)(n36:Int)(y3:Dat)(g:Glob)(Qf:OGP):Prop:=CutP TT Tryz.f81 [1,1,1,0] Qf (mkC TT 81 Tryz.f81 2 [(2,.v 0 (.ptr (some (p2,0)))),(3,.loc 3 0 0),(34,.v 24 (x34)),(35,.v 3 (.int .i64 n35)),(36,.v 3 (.int .i64 n36))] [(3,.whole 27 y3)] g)
def L81_9(p2:Nat)(n4:Int)(p5:Nat)(x34:Dat)(n35:Int)(n36:Int)(y3:Dat)(g:Glob)(Qf:OGP):Prop:=CutP TT Tryz.f81 [1,1,1,0,0,1,1,0,0,1] Qf (mkC TT 81 Tryz.f81 2 [(2,.v 0 (.ptr (some (p2,0)))),(3,.loc 3 0 0),(4,.v 3 (.int .i64 n4)),(5,.v 0 (.ptr (some (p5,0)))),(34,.v 24 (x34)),(35,.v 3 (.int .i64 n35)),(36,.v 3 (.int .i64 n36))] [(3,.whole 27 y3)] g)
def L81_10(p2:Nat)(n4:Int)(p5:Nat)(p6:Nat)(x34:Dat)(n35:Int)(n36:Int)(y3:Dat)(g:Glob)(Qf:OGP):Prop:=CutP TT Tryz.f81 [1,1,1,0,0,1,1,0,0,1,1] Qf (mkC TT 81 Tryz.f81 2 [(2,.v 0 (.ptr (some (p2,0)))),(3,.loc 3 0 0),(4,.v 3 (.int .i64 n4)),(5,.v 0 (.ptr (some (p5,0)))),(6,.v 0 (.ptr (some (p6,0)))),(34,.v 24 (x34)),(35,.v 3 (.int .i64 n35)),(36,.v 3 (.int .i64 n36))] [(3,.whole 27 y3)] g)
def L81_13(p2:Nat)(p5:Nat)(p6:Nat)(x34:Dat)(n35:Int)(n36:Int)(y3:Dat)(g:Glob)(Qf:OGP):Prop:=CutP TT Tryz.f81 [1,1,1,0,0,1,1,0,0,1,1,1] Qf (mkC TT 81 Tryz.f81 2 [(2,.v 0 (.ptr (some (p2,0)))),(3,.loc 3 0 0),(5,.v 0 (.ptr (some (p5,0)))),(6,.v 0 (.ptr (some (p6,0)))),(34,.v 24 (x34)),(35,.v 3 (.int .i64 n35)),(36,.v 3 (.int .i64 n36))] [(3,.whole 27 y3)] g)
def lo81:List CutI:=[⟨7,[(2,.keep),(3,.keep),(34,.keep),(35,.keep),(36,.keep)],[(3,.whole 27)]⟩]
def jo81:List CutI:=[⟨9,[(2,.keep),(3,.keep),(4,.keep),(5,.keep),(34,.keep),(35,.keep),(36,.keep)],[(3,.whole 27)]⟩,⟨10,[(2,.keep),(3,.keep),(4,.keep),(5,.keep),(6,.keep),(34,.keep),(35,.keep),(36,.keep)],[(3,.whole 27)]⟩,⟨13,[(2,.keep),(3,.keep),(5,.keep),(6,.keep),(34,.keep),(35,.keep),(36,.keep)],[(3,.whole 27)]⟩]
theorem w81{p0:Nat}{x1:Dat}{g:Glob}{Qf:OGP}(h1:HasTy TT 27 x1)
 (h:Br (intOf (fld x1 0)==1) (∃i o,GOk TT 107 (gnew g [.ptr (some (p0,0))]) g.boxes.length 0 (.ptr (some (i,o)))∧∃i_1,GOk TT 108 (gnew g [.ptr (some (p0,0))]) i (o+1) (Dat.map (some i_1))∧∃n b,MLook (gnew g [.ptr (some (p0,0))]) (some i_1) (.int .i64 0) (.str (strOf (fld x1 1))) (.int .i64 n) b∧EvF TT 145 [.bool (decide (0<n)),.int .i64 140,.int .i64 (intOf (fld x1 6))] (gnew g [.ptr (some (p0,0))]) (KQ Qf λv g'=>RetT v []∧L81_7 g.boxes.length (fld x1 4) (↑(elsOf (fld x1 4)).length:Int) 0 x1 g' Qf)) (Br (intOf (fld x1 0)==8) (∃i o,GOk TT 107 (gnew g [.ptr (some (p0,0))]) g.boxes.length 0 (.ptr (some (i,o)))∧EvF TT 148 [.ptr (some (i,o)),.str (strOf (fld x1 1)),.int .i64 (↑(elsOf (fld x1 4)).length:Int),.int .i64 (intOf (fld x1 6))] (gnew g [.ptr (some (p0,0))]) (KQ Qf λv g'=>RetT v []∧L81_7 g.boxes.length (fld x1 4) (↑(elsOf (fld x1 4)).length:Int) 0 x1 g' Qf)) (L81_7 g.boxes.length (fld x1 4) (↑(elsOf (fld x1 4)).length:Int) 0 x1 (gnew g [.ptr (some (p0,0))]) Qf))):
 EvF TT 81 [.ptr (some (p0,0)),x1] g Qf:=
 sx_fun (rk:=rk) (fn:=Tryz.f81) (loops:=lo81) (joins:=jo81) (n:=100000) (args:=[(107,.ptr (some (p0,0))),(27,x1)]) rfl rfl rfl rfl ⟨tyPtr rfl,h1,trivial⟩ (by kernel_rfl) h
theorem w81_7{p2:Nat}{x34:Dat}{n35:Int}{n36:Int}{y3:Dat}{g:Glob}{Qf:OGP}
 (h:Br (decide (n36<n35)) (InB n36 (elsOf x34).length∧GPut (gnew g [.int .i64 0,.str [],.str [],.int .i64 0,.nil,.nil,.int .i64 0]) g.boxes.length 0 7∧L81_9 p2 n36 g.boxes.length x34 n35 n36 y3 (gput (gnew g [.int .i64 0,.str [],.str [],.int .i64 0,.nil,.nil,.int .i64 0]) g.boxes.length 0 (getE (elsOf x34) n36)) Qf) (Qf (.val (.tuple [])) g)):
 L81_7 p2 x34 n35 n36 y3 g Qf:=sx_cut (rk:=rk) (loops:=lo81) (joins:=jo81) (n:=100000) (by kernel_rfl) h
theorem w81_9{p2:Nat}{n4:Int}{p5:Nat}{x34:Dat}{n35:Int}{n36:Int}{y3:Dat}{g:Glob}{Qf:OGP}
 (h:L81_10 p2 n4 p5 g.boxes.length x34 n35 n36 y3 (gnew g [Dat.nil]) Qf):
 L81_9 p2 n4 p5 x34 n35 n36 y3 g Qf:=sx_cut (rk:=rk) (loops:=lo81) (joins:=jo81) (n:=100000) (by kernel_rfl) h
theorem w81_10{p2:Nat}{n4:Int}{p5:Nat}{p6:Nat}{x34:Dat}{n35:Int}{n36:Int}{y3:Dat}{g:Glob}{Qf:OGP}
 (h:Br (intOf (fld y3 0)==7) (Br (decide (0<n4)) (∃i o,GOk TT 107 g p2 0 (.ptr (some (i,o)))∧InB (IntKind.i64.wrap (n4-1)) (elsOf (fld y3 5)).length∧EvF TT 149 [.ptr (some (i,o)),getE (elsOf (fld y3 5)) (IntKind.i64.wrap (n4-1)),.ptr (some (p6,0))] g (KQ Qf λv g'=>RetT v []∧L81_13 p2 p5 p6 x34 n35 n36 y3 g' Qf)) (EvF TT 91 [y3,.int .i64 n4] g (KQ Qf λv g'=>∃x,HasTy TT 61 x∧RetV v x∧GPut g' p6 0 1∧L81_13 p2 p5 p6 x34 n35 n36 y3 (gput g' p6 0 x) Qf))) (EvF TT 91 [y3,.int .i64 n4] g (KQ Qf λv g'=>∃x,HasTy TT 61 x∧RetV v x∧GPut g' p6 0 1∧L81_13 p2 p5 p6 x34 n35 n36 y3 (gput g' p6 0 x) Qf))):
 L81_10 p2 n4 p5 p6 x34 n35 n36 y3 g Qf:=sx_cut (rk:=rk) (loops:=lo81) (joins:=jo81) (n:=100000) (by kernel_rfl) h
theorem w81_13{p2:Nat}{p5:Nat}{p6:Nat}{x34:Dat}{n35:Int}{n36:Int}{y3:Dat}{g:Glob}{Qf:OGP}
 (h:∃i o,GOk TT 107 g p2 0 (.ptr (some (i,o)))∧∃x,HasTy TT 61 x∧GOk TT 61 g p6 0 x∧EvF TT 90 [.ptr (some (i,o)),x,.clo 150 [.ptr (some (p2,0)),.ptr (some (p5,0))]] g (KQ Qf λv g'=>RetT v []∧L81_7 p2 x34 n35 (IntKind.i64.wrap (n36+1)) y3 g' Qf)):
 L81_13 p2 p5 p6 x34 n35 n36 y3 g Qf:=sx_cut (rk:=rk) (loops:=lo81) (joins:=jo81) (n:=100000) (by kernel_rfl) h
def L80_2(p0:Nat)(p2:Nat)(p3:Nat)(x22:Dat)(n23:Int)(n24:Int)(g:Glob)(Qf:OGP):Prop:=CutP TT Tryz.f80 [1,0,1,0] Qf (mkC TT 80 Tryz.f80 1 [(0,.v 107 (.ptr (some (p0,0)))),(2,.v 108 (.map (some p2))),(3,.v 108 (.map (some p3))),(22,.v 23 (x22)),(23,.v 3 (.int .i64 n23)),(24,.v 3 (.int .i64 n24))] [] g)
def L80_7(p0:Nat)(p2:Nat)(p3:Nat)(x22:Dat)(n23:Int)(n24:Int)(x42:Dat)(n43:Int)(n44:Int)(y5:Dat)(g:Glob)(Qf:OGP):Prop:=CutP TT Tryz.f80 [1,0,1,0,0,1,1,0,0,1,1,1,0,1,0] Qf (mkC TT 80 Tryz.f80 1 [(0,.v 107 (.ptr (some (p0,0)))),(2,.v 108 (.map (some p2))),(3,.v 108 (.map (some p3))),(5,.loc 5 0 0),(22,.v 23 (x22)),(23,.v 3 (.int .i64 n23)),(24,.v 3 (.int .i64 n24)),(42,.v 61 (x42)),(43,.v 3 (.int .i64 n43)),(44,.v 3 (.int .i64 n44))] [(5,.whole 76 y5)] g)
def L80_12(p0:Nat)(p2:Nat)(p3:Nat)(x22:Dat)(n23:Int)(n24:Int)(x61:Dat)(n62:Int)(n63:Int)(y5:Dat)(g:Glob)(Qf:OGP):Prop:=CutP TT Tryz.f80 [1,0,1,0,0,1,1,0,0,1,1,1,1,1,0] Qf (mkC TT 80 Tryz.f80 1 [(0,.v 107 (.ptr (some (p0,0)))),(2,.v 108 (.map (some p2))),(3,.v 108 (.map (some p3))),(5,.loc 5 0 0),(22,.v 23 (x22)),(23,.v 3 (.int .i64 n23)),(24,.v 3 (.int .i64 n24)),(61,.v 74 (x61)),(62,.v 3 (.int .i64 n62)),(63,.v 3 (.int .i64 n63))] [(5,.whole 76 y5)] g)
def L80_19(p0:Nat)(x85:Dat)(n86:Int)(n87:Int)(g:Glob)(Qf:OGP):Prop:=CutP TT Tryz.f80 [1,1,1,0] Qf (mkC TT 80 Tryz.f80 1 [(0,.v 107 (.ptr (some (p0,0)))),(85,.v 23 (x85)),(86,.v 3 (.int .i64 n86)),(87,.v 3 (.int .i64 n87))] [] g)
def L80_22(p0:Nat)(x85:Dat)(n86:Int)(n87:Int)(x92:Dat)(n93:Int)(n94:Int)(y11:Dat)(g:Glob)(Qf:OGP):Prop:=CutP TT Tryz.f80 [1,1,1,0,0,1,1,0,0,1,1,0] Qf (mkC TT 80 Tryz.f80 1 [(0,.v 107 (.ptr (some (p0,0)))),(11,.loc 11 0 0),(85,.v 23 (x85)),(86,.v 3 (.int .i64 n86)),(87,.v 3 (.int .i64 n87)),(92,.v 74 (x92)),(93,.v 3 (.int .i64 n93)),(94,.v 3 (.int .i64 n94))] [(11,.whole 76 y11)] g)
def L80_25(p0:Nat)(x85:Dat)(n86:Int)(n87:Int)(x92:Dat)(n93:Int)(n94:Int)(x99:Dat)(n100:Int)(n101:Int)(y11:Dat)(g:Glob)(Qf:OGP):Prop:=CutP TT Tryz.f80 [1,1,1,0,0,1,1,0,0,1,1,0,0,1,1,0,0,1,1,0] Qf (mkC TT 80 Tryz.f80 1 [(0,.v 107 (.ptr (some (p0,0)))),(11,.loc 11 0 0),(85,.v 23 (x85)),(86,.v 3 (.int .i64 n86)),(87,.v 3 (.int .i64 n87)),(92,.v 74 (x92)),(93,.v 3 (.int .i64 n93)),(94,.v 3 (.int .i64 n94)),(99,.v 89 (x99)),(100,.v 3 (.int .i64 n100)),(101,.v 3 (.int .i64 n101))] [(11,.whole 76 y11)] g)
def lo80:List CutI:=[⟨2,[(0,.keep),(2,.keep),(3,.keep),(22,.keep),(23,.keep),(24,.keep)],[]⟩,⟨7,[(0,.keep),(2,.keep),(3,.keep),(5,.keep),(22,.keep),(23,.keep),(24,.keep),(42,.keep),(43,.keep),(44,.keep)],[(5,.whole 76)]⟩,⟨12,[(0,.keep),(2,.keep),(3,.keep),(5,.keep),(22,.keep),(23,.keep),(24,.keep),(61,.keep),(62,.keep),(63,.keep)],[(5,.whole 76)]⟩,⟨19,[(0,.keep),(85,.keep),(86,.keep),(87,.keep)],[]⟩,⟨22,[(0,.keep),(11,.keep),(85,.keep),(86,.keep),(87,.keep),(92,.keep),(93,.keep),(94,.keep)],[(11,.whole 76)]⟩,⟨25,[(0,.keep),(11,.keep),(85,.keep),(86,.keep),(87,.keep),(92,.keep),(93,.keep),(94,.keep),(99,.keep),(100,.keep),(101,.keep)],[(11,.whole 76)]⟩]
theorem w80{p0:Nat}{g:Glob}{Qf:OGP}
 (h:∃g',gmput (gmnew g) g.boxes.length (.str [105,110,116]) (.int .i64 1)=some g'∧∃x,HasTy TT 23 x∧GOk TT 23 (gmnew g') p0 0 x∧L80_2 p0 g.boxes.length g'.boxes.length x (↑(elsOf x).length:Int) 0 (gmnew g') Qf):
 EvF TT 80 [.ptr (some (p0,0))] g Qf:=
 sx_fun (rk:=rk) (fn:=Tryz.f80) (loops:=lo80) (joins:=[]) (n:=100000) (args:=[(107,.ptr (some (p0,0)))]) rfl rfl rfl rfl ⟨tyPtr rfl,trivial⟩ (by kernel_rfl) h
theorem w80_2{p0:Nat}{p2:Nat}{p3:Nat}{x22:Dat}{n23:Int}{n24:Int}{g:Glob}{Qf:OGP}
 (h:Br (decide (n24<n23)) (InB n24 (elsOf x22).length∧∃n b,MLook g (some p2) (.int .i64 0) (.str (strOf (fld (getE (elsOf x22) n24) 0))) (.int .i64 n) b∧∃g',gmput g p2 (.str (strOf (fld (getE (elsOf x22) n24) 0))) (.int .i64 (IntKind.i64.wrap (n+1)))=some g'∧∃n b,MLook g' (some p2) (.int .i64 0) (.str (strOf (fld (getE (elsOf x22) n24) 0))) (.int .i64 n) b∧EvF TT 145 [.bool (n==1),.int .i64 141,.int .i64 (intOf (fld (getE (elsOf x22) n24) 3))] g' (KQ Qf λv g'=>RetT v []∧L80_7 p0 p2 p3 x22 n23 n24 (fld (getE (elsOf x22) n24) 1) (↑(elsOf (fld (getE (elsOf x22) n24) 1)).length:Int) 0 (getE (elsOf x22) n24) g' Qf)) (∃x,HasTy TT 23 x∧GOk TT 23 g p0 0 x∧L80_19 p0 x (↑(elsOf x).length:Int) 0 g Qf)):
 L80_2 p0 p2 p3 x22 n23 n24 g Qf:=sx_cut (rk:=rk) (loops:=lo80) (joins:=[]) (n:=100000) (by kernel_rfl) h
theorem w80_7{p0:Nat}{p2:Nat}{p3:Nat}{x22:Dat}{n23:Int}{n24:Int}{x42:Dat}{n43:Int}{n44:Int}{y5:Dat}{g:Glob}{Qf:OGP}
 (h:Br (decide (n44<n43)) (InB n44 (elsOf x42).length∧InS 0 n44 (elsOf (fld y5 1)).length∧EvF TT 146 [slSub 1 (fld y5 1) (elsOf (fld y5 1)) 0 n44,.str (strOf (fld (getE (elsOf x42) n44) 0))] g (KQ Qf λv g'=>∃b,v=.d (.bool b)∧EvF TT 145 [.bool !b,.int .i64 141,.int .i64 (intOf (fld y5 3))] g' (KQ Qf λv g'=>RetT v []∧L80_7 p0 p2 p3 x22 n23 n24 x42 n43 (IntKind.i64.wrap (n44+1)) y5 g' Qf))) (L80_12 p0 p2 p3 x22 n23 n24 (fld y5 2) (↑(elsOf (fld y5 2)).length:Int) 0 y5 g Qf)):
 L80_7 p0 p2 p3 x22 n23 n24 x42 n43 n44 y5 g Qf:=sx_cut (rk:=rk) (loops:=lo80) (joins:=[]) (n:=100000) (by kernel_rfl) h
theorem w80_12{p0:Nat}{p2:Nat}{p3:Nat}{x22:Dat}{n23:Int}{n24:Int}{x61:Dat}{n62:Int}{n63:Int}{y5:Dat}{g:Glob}{Qf:OGP}
 (h:Br (decide (n63<n62)) (InB n63 (elsOf x61).length∧∃n b,MLook g (some p3) (.int .i64 0) (.str (strOf (fld (getE (elsOf x61) n63) 0))) (.int .i64 n) b∧∃g',gmput g p3 (.str (strOf (fld (getE (elsOf x61) n63) 0))) (.int .i64 (IntKind.i64.wrap (n+1)))=some g'∧∃n b,MLook g' (some p3) (.int .i64 0) (.str (strOf (fld (getE (elsOf x61) n63) 0))) (.int .i64 n) b∧EvF TT 145 [.bool (n==1),.int .i64 141,.int .i64 (intOf (fld y5 3))] g' (KQ Qf λv g'=>RetT v []∧L80_12 p0 p2 p3 x22 n23 n24 x61 n62 (IntKind.i64.wrap (n63+1)) y5 g' Qf)) (L80_2 p0 p2 p3 x22 n23 (IntKind.i64.wrap (n24+1)) g Qf)):
 L80_12 p0 p2 p3 x22 n23 n24 x61 n62 n63 y5 g Qf:=sx_cut (rk:=rk) (loops:=lo80) (joins:=[]) (n:=100000) (by kernel_rfl) h
theorem w80_19{p0:Nat}{x85:Dat}{n86:Int}{n87:Int}{g:Glob}{Qf:OGP}
 (h:Br (decide (n87<n86)) (InB n87 (elsOf x85).length∧L80_22 p0 x85 n86 n87 (fld (getE (elsOf x85) n87) 2) (↑(elsOf (fld (getE (elsOf x85) n87) 2)).length:Int) 0 (getE (elsOf x85) n87) g Qf) (Qf (.val (.tuple [])) g)):
 L80_19 p0 x85 n86 n87 g Qf:=sx_cut (rk:=rk) (loops:=lo80) (joins:=[]) (n:=100000) (by kernel_rfl) h
theorem w80_22{p0:Nat}{x85:Dat}{n86:Int}{n87:Int}{x92:Dat}{n93:Int}{n94:Int}{y11:Dat}{g:Glob}{Qf:OGP}
 (h:Br (decide (n94<n93)) (InB n94 (elsOf x92).length∧L80_25 p0 x85 n86 n87 x92 n93 n94 (fld (getE (elsOf x92) n94) 1) (↑(elsOf (fld (getE (elsOf x92) n94) 1)).length:Int) 0 y11 g Qf) (L80_19 p0 x85 n86 (IntKind.i64.wrap (n87+1)) g Qf)):
 L80_22 p0 x85 n86 n87 x92 n93 n94 y11 g Qf:=sx_cut (rk:=rk) (loops:=lo80) (joins:=[]) (n:=100000) (by kernel_rfl) h
theorem w80_25{p0:Nat}{x85:Dat}{n86:Int}{n87:Int}{x92:Dat}{n93:Int}{n94:Int}{x99:Dat}{n100:Int}{n101:Int}{y11:Dat}{g:Glob}{Qf:OGP}
 (h:Br (decide (n101<n100)) (InB n101 (elsOf x99).length∧EvF TT 147 [.ptr (some (p0,0)),getE (elsOf x99) n101,y11] g (KQ Qf λv g'=>∃b,v=.d (.bool b)∧EvF TT 145 [.bool b,.int .i64 141,.int .i64 (intOf (fld y11 3))] g' (KQ Qf λv g'=>RetT v []∧L80_25 p0 x85 n86 n87 x92 n93 n94 x99 n100 (IntKind.i64.wrap (n101+1)) y11 g' Qf))) (L80_22 p0 x85 n86 n87 x92 n93 (IntKind.i64.wrap (n94+1)) y11 g Qf)):
 L80_25 p0 x85 n86 n87 x92 n93 n94 x99 n100 n101 y11 g Qf:=sx_cut (rk:=rk) (loops:=lo80) (joins:=[]) (n:=100000) (by kernel_rfl) h
def lo29:List CutI:=[]
theorem w29{x0:Dat}{g:Glob}{Qf:OGP}(h0:HasTy TT 29 x0)
 (h:EvF TT 24 [x0] (gnew g [.int .i64 0,.int .i64 0]) (KQ Qf λv g'=>∃b,v=.d (.bool b)∧Br (!b) (GPut g' g.boxes.length 0 2∧∃x,HasTy TT 49 x∧GOk TT 49 (gput g' g.boxes.length 0 (.agg [.int .i64 1,.int .i64 0])) g.boxes.length 0 x∧Qf (.val (.d x)) (gput g' g.boxes.length 0 (.agg [.int .i64 1,.int .i64 0]))) (EvF TT 31 [x0] g' λout g'=>Outc (λx=>DefQ TT [(79,[.ptr (some (g.boxes.length,0))])] [(49,g.boxes.length,0)] (some x) g' Qf) (λv=>∃x,HasTy TT 23 x∧RetV v x∧EvF TT 80 [.ptr (some ((gmnew g').boxes.length,0))] (gnew (gmnew g') [x,Dat.map (some g'.boxes.length)]) λout g'_1=>Outc (λx=>DefQ TT [(79,[.ptr (some (g.boxes.length,0))])] [(49,g.boxes.length,0)] (some x) g'_1 Qf) (λv=>RetT v []∧EvF TT 81 [.ptr (some ((gmnew g').boxes.length,0)),sub x0 1 7] g'_1 λout g'=>Outc (λx=>DefQ TT [(79,[.ptr (some (g.boxes.length,0))])] [(49,g.boxes.length,0)] (some x) g' Qf) (λv=>RetT v []∧GPut g' g.boxes.length 0 2∧DefQ TT [(79,[.ptr (some (g.boxes.length,0))])] [(49,g.boxes.length,0)] none (gput g' g.boxes.length 0 (.agg [.int .i64 0,.int .i64 0])) Qf) out) out) out))):
 EvF TT 29 [x0] g Qf:=
 sx_fun (rk:=rk) (fn:=Tryz.f29) (loops:=lo29) (joins:=[]) (n:=100000) (args:=[(29,x0)]) rfl rfl rfl rfl ⟨h0,trivial⟩ (by kernel_rfl) h
def lo9:List CutI:=[]
theorem w9{x0:Dat}{g:Glob}{Qf:OGP}(h0:HasTy TT 29 x0)
 (h:EvF TT 21 [x0] g (KQ Qf λv g'=>∃b,v=.d (.bool b)∧Br b (EvF TT 28 [] g' (KQ Qf λv g'=>∃b,v=.d (.bool b)∧Qf (.val (.d (.bool b))) g')) (EvF TT 23 [x0] g' (KQ Qf λv g'=>∃x,HasTy TT 29 x∧v=.d x∧EvF TT 29 [x] g' (KQ Qf λv g'=>∃x_1,HasTy TT 49 x_1∧v=.d x_1∧EvF TT 30 [x0] g' (KQ Qf λv g'=>∃n n_1,RetT v [.int .i64 n,.int .i64 n_1]∧Br (intOf (fld x_1 0)==n) (Br (intOf (fld x_1 1)==n_1) (EvF TT 18 [x,x0,.bool true] g' (KQ Qf λv g'=>∃b,v=.d (.bool b)∧Br b (EvF TT 28 [] g' (KQ Qf λv g'=>∃b,v=.d (.bool b)∧Qf (.val (.d (.bool b))) g')) (Qf (.val (.d (.bool false))) g'))) (Qf (.val (.d (.bool false))) g')) (Qf (.val (.d (.bool false))) g'))))))):
 EvF TT 9 [x0] g Qf:=
 sx_fun (rk:=rk) (fn:=Tryz.f9) (loops:=lo9) (joins:=[]) (n:=100000) (args:=[(29,x0)]) rfl rfl rfl rfl ⟨h0,trivial⟩ (by kernel_rfl) h
end Go.Proofs.YtgmapdcdmomioaaGreatDoor.Pa
namespace Go.Proofs.YtgmapdcdmomioaaGreatDoor.Pa
open Go Go.Proofs.YtgmapdcdmomioaaGreatDoor.Am
def fltD(c p:Int):Dat:=.iface 106 (.agg [.int .i64 c,.int .i64 p])
theorem want_ok{b:Bool}{c p:Int}{g:Glob}{Qf:OGP}(hF:b=false→Qf (.panic (fltD c p)) g)(hT:b=true→Qf (.val (.tuple [])) g):EvF TT 145 [.bool b,.int .i64 c,.int .i64 p] g Qf:=
 w145 (Br_iff.2 ⟨λq=>hF (by simpa using q),λq=>hT (by simpa using q)⟩)
theorem sContains_ok{x:Dat}{l:List Str}{s:Str}{g:Glob}{Qf:OGP}(hx:HasTy TT 61 x)(hl:elsOf x=l.map .str)(hs:s.length≤2^40)(hQ:Qf (.val (.d (.bool (l.contains s)))) g):EvF TT 146 [x,.str s] g Qf:=by
 have hn:l.length≤2^40:=by have:=(hx.els undStrs).1.1;rw[elsLen hl] at this;exact this
 refine w146 hx hs (w204 hx hs ?_)
 rw[elsLen hl]
 refine loopUp (len:=l.length) (λi=>Qf (.val (.d (.bool ((l.drop i).contains s)))) g→L204_2 x s (l.length:Int) (i:Int) g _) ?_ ?_ 0 (Nat.zero_le _) hQ
 ·intro hQ
  refine w204_2 ?_
  rw[Br_ge]
  rw[List.drop_length] at hQ
  exact⟨_,rfl,hQ⟩
 ·intro i hi ih hQ
  refine w204_2 ?_
  rw[Br_lt hi,strAt hl hi,elsLen hl]
  rw[List.drop_eq_getElem_cons hi,List.contains_cons] at hQ
  refine⟨inB hi,Br_iff.2 ⟨λq=>⟨_,rfl,bcast hQ ?_⟩,λq=>?_⟩⟩
  ·rw[q,Bool.true_or,decide_eq_true (by omega)]
  ·rw[q,Bool.false_or] at hQ
   rw[wrap_nat (by omega)]
   exact ih hQ
theorem gnew4(g:Glob)(ds:List Dat){j:Nat}{bx:GBox}(h:g.boxes[j]?=some bx):(gnew g ds).boxes[j]?=some bx:=by
 rw[gnew_old _ (List.getElem?_eq_some_iff.1 h).1];exact h
theorem Kp.at{bx:List Nat}{b:Nat}{g g':Glob}(h:Kp bx b g g'){j:Nat}{x:GBox}(hj:g.boxes[j]?=some x)(hx:j ∉ bx):g'.boxes[j]?=some x:=by
 rw[h.box j (List.getElem?_eq_some_iff.1 hj).1 hx];exact hj
structure DL(D:Dat)(l:List Dc):Prop where
 ty:HasTy TT 23 D
 abs:(elsOf D).map absDc=l
theorem DL.len{D:Dat}{l:List Dc}(h:DL D l):(elsOf D).length=l.length:=by rw[←h.abs,List.length_map]
theorem DL.get{D:Dat}{l:List Dc}(h:DL D l){i:Nat}(hi:i<l.length):∃s a b p,getE (elsOf D) (i:Int)=.agg [.str s,a,b,.int .i64 p]∧s.length≤2^40∧HasTy TT 61 a∧HasTy TT 74 b∧l[i]=⟨s,(elsOf a).map strOf,(elsOf b).map absCn,p⟩:=by
 have hi':i<(elsOf D).length:=by rw[h.len];exact hi
 obtain⟨s,a,b,p,e,hs,ha,hb⟩:=decl_ty ((h.ty.els undDecls).2 _ (List.getElem_mem hi'))
 refine⟨s,a,b,p,by rw[getE_nat hi',e],hs,ha,hb,?_⟩
 have h2:l[i]=absDc (elsOf D)[i]:=by
  have:=h.abs
  subst this
  rw[List.getElem_map]
 rw[h2,e]
 rfl
theorem undType:∃d,TT.und 94=some d∧isAggD d=true:=isAgg_und (by kernel_rfl)
theorem undDecl:∃d,TT.und 76=some d∧isAggD d=true:=isAgg_und (by kernel_rfl)
theorem sizeInt':TT.size 3=some 1:=by kernel_rfl
theorem sizeStr':TT.size 9=some 1:=by kernel_rfl
theorem sizeDecls:TT.size 23=some 1:=by kernel_rfl
theorem sizeTypes:TT.size 89=some 1:=by kernel_rfl
theorem strEls{a:Dat}(h:HasTy TT 61 a):elsOf a=((elsOf a).map strOf).map .str:=by
 obtain⟨l,e,_⟩:=strs_inv h
 have:(l.map Dat.str).map strOf=l:=by rw[List.map_map];exact List.map_id'' (λ_=>rfl) l
 rw[e,this]
theorem containsTypes_g{f:FuncId}{c:List Dat}{p:Dat→Bool}{x:Dat}{g:Glob}{Qf:OGP}{P:Glob→Prop}(hx:HasTy TT 89 x)
 (hf:∀y∈elsOf x,∀g,P g→∀Q:Out→Glob→Prop,(∀g',P g'→Q (.val (.d (.bool (p y)))) g')→EvF TT f (y::c) g Q) (hP:P g) (hQ:∀g',P g'→Qf (.val (.d (.bool ((elsOf x).any p)))) g'):EvF TT 137 [x,.clo f c] g Qf:=by
 have exl:=len_le undTypes hx
 refine w137 hx (w201 hx ?_)
 refine loopUp (len:=(elsOf x).length) (λi=>∀g,P g→(∀g',P g'→Qf (.val (.d (.bool (((elsOf x).drop i).any p)))) g')→L201_2 x f c ((elsOf x).length:Int) (i:Int) g _) ?_ ?_ 0 (Nat.zero_le _) g hP hQ
 ·intro g hP hQ
  refine w201_2 ?_
  rw[Br_ge]
  rw[List.drop_length] at hQ
  exact⟨_,rfl,hQ g hP⟩
 ·intro i hi ih g hP hQ
  refine w201_2 ?_
  rw[Br_lt hi,getE_nat hi]
  rw[List.drop_eq_getElem_cons hi,List.any_cons] at hQ
  refine⟨inB hi,hf _ (List.getElem_mem hi) g hP _ λg' hP'=>⟨_,rfl,Br_iff.2 ⟨λq=>?_,λq=>?_⟩⟩⟩
  ·rw[q] at hQ
   refine⟨_,rfl,bcast (hQ g' hP') ?_⟩
   rw[Bool.true_or,decide_eq_true (by omega)]
  ·rw[q] at hQ
   rw[wrap_nat (by omega)]
   exact ih g' hP' hQ
theorem indexDecl_ok{f:FuncId}{c:List Dat}{D:Dat}{l:List Dc}{s:Str}{g:Glob}{Qf:OGP}(hD:DL D l)(hf:∀y∈elsOf D,∀Q:Out→Glob→Prop,Q (.val (.d (.bool ((absDc y).s==s)))) g→EvF TT f (y::c) g Q)
 (hQ:Qf (.val (.d (.int .i64 (declIx s l 0)))) g):EvF TT 135 [D,.clo f c] g Qf:=by
 have exl:=len_le undDecls hD.ty
 refine w135 hD.ty ?_
 have e:l=((elsOf D).drop 0).map absDc:=by rw[List.drop_zero,hD.abs]
 rw[e] at hQ
 refine loopUp (len:=(elsOf D).length) (λi=>Qf (.val (.d (.int .i64 (declIx s (((elsOf D).drop i).map absDc) (i:Int))))) g→L135_2 D f c ((elsOf D).length:Int) (i:Int) g Qf) ?_ ?_ 0 (Nat.zero_le _) hQ
 ·intro hQ
  refine w135_2 ?_
  rw[Br_ge]
  rw[List.drop_length] at hQ
  exact hQ
 ·intro i hi ih hQ
  refine w135_2 ?_
  rw[Br_lt hi,getE_nat hi]
  rw[List.drop_eq_getElem_cons hi,List.map_cons] at hQ
  unfold declIx at hQ
  refine⟨inB hi,hf _ (List.getElem_mem hi) _ ⟨_,rfl,Br_iff.2 ⟨λq=>?_,λq=>?_⟩⟩⟩
  ·rw[q] at hQ
   exact hQ
  ·rw[q] at hQ
   rw[wrap_nat (by omega)]
   refine ih ?_
   simp only[cond_false] at hQ
   exact hQ
theorem typed_ok:∀(n:Nat) {x d D:Dat} {l:List Dc} {p mb:Nat} {ps:List Str} {g:Glob} {Qf:OGP},SizeOf.sizeOf x<n→HasTy TT 94 x→HasTy TT 76 d→elsOf (fld d 1)=ps.map .str→DL D l→ScBox g p mb D→
 (∀g',Kp [] g.toks.length g g'→Qf (.val (.d (.bool (typedT l ps (absTy x))))) g')→EvF TT 147 [.ptr (some (p,0)),x,d] g Qf
 |0,x,d,D,l,p,mb,ps,g,Qf,hsz,_,_,_,_,_,_=>by omega
 |n+1,x,d,D,l,p,mb,ps,g,Qf,hsz,hx,hd,hps,hD,hb,hQ=>by
  obtain⟨k1,s1,v1,a1,rfl,hs1,t1⟩:=type_ty hx
  obtain⟨s2,a2,b2,p2,rfl,hs2,ha2,hb2⟩:=decl_ty hd
  have ex:=t1.els undTypes
  have exl:=ex.1.1
  have hc:=sizeOf_cell (cs:=[.int .i64 k1,.str s1,.int .i64 v1,a1]) (c:=a1) (by simp)
  have hps:elsOf a2=ps.map .str:=hps
  have e1:typedT l ps (absTy (.agg [.int .i64 k1,.str s1,.int .i64 v1,a1]))=(bif k1==2 then ps.contains s1 else bif k1==4 then(match dcPs s1 l with|none=>false|some m=>m==(elsOf a1).length&&typedTs l ps ((elsOf a1).map absTy)) else typedTs l ps ((elsOf a1).map absTy)):=by
   simp only[absTy,typedT,absTyA_map,List.length_map]
   all_goals rfl
  rw[e1] at hQ
  refine w147 hx hd ?_
  generalize hg1:gnew g [Dat.ptr (some (p,0))]=g1
  show L147_1 g.boxes.length g1.boxes.length (gnew g1 [Dat.int IntKind.i64 k1,Dat.str s1,Dat.int IntKind.i64 v1,a1]).boxes.length (gnew (gnew g1 [Dat.int IntKind.i64 k1,Dat.str s1,Dat.int IntKind.i64 v1,a1]) [Dat.str s2,a2,b2,Dat.int IntKind.i64 p2]) Qf
  generalize hg2:gnew g1 [Dat.int IntKind.i64 k1,Dat.str s1,Dat.int IntKind.i64 v1,a1]=g2
  generalize hg3:gnew g2 [Dat.str s2,a2,b2,Dat.int IntKind.i64 p2]=g3
  have b3:g3.boxes[g.boxes.length]?=some (.cells [.d (.ptr (some (p,0)))]):=by
   rw[←hg3];refine gnew4 _ _ ?_;rw[←hg2];refine gnew4 _ _ ?_;rw[←hg1];exact gnew_get _ _
  have b4:g3.boxes[g1.boxes.length]?=some (.cells [.d (.int .i64 k1),.d (.str s1),.d (.int .i64 v1),.d a1]):=by
   rw[←hg3];refine gnew4 _ _ ?_;rw[←hg2];exact gnew_get _ _
  have b5:g3.boxes[g2.boxes.length]?=some (.cells ([Dat.str s2,a2,b2,.int .i64 p2].map .d)):=by
   rw[←hg3];exact gnew_get _ _
  have b0:ScBox g3 p mb D:=by
   unfold ScBox
   rw[←hg3];refine gnew4 _ _ ?_;rw[←hg2];refine gnew4 _ _ ?_;rw[←hg1];exact gnew4 _ _ hb
  have kp:Kp [] g.toks.length g g3:=by
   rw[←hg3,←hg2,←hg1]
   exact((kp_gnew _ _ _).trans (kp_gnew _ _ _)).trans (kp_gnew _ _ _)
  have ht3:g3.toks=g.toks:=by rw[←hg3,←hg2,←hg1];rfl
  obtain⟨td,htu,hta⟩:=undType
  obtain⟨dd,hdu,hda⟩:=undDecl
  -- the arguments
  have L8:(∀g',Kp [] g.toks.length g g'→Qf (.val (.d (.bool (typedTs l ps ((elsOf a1).map absTy))))) g')→L147_8 g.boxes.length g1.boxes.length g2.boxes.length g3 Qf:=by
   intro hQ
   refine w147_8 ⟨a1,t1,gokD undTypes sizeTypes rfl b4 rfl,?_⟩
   refine containsTypes_g (p:=λy=>!(typedT l ps (absTy y))) (P:=λg'=>Kp [] g3.toks.length g3 g') t1 (λy hy g4 h4 Q hQ4=>?_) (Kp.refl _ _ _) λg' hk=>⟨_,rfl,?_⟩
   ·have b0':ScBox g4 p mb D:=h4.at b0 (by simp)
    refine w206 (ex.2 y hy) ⟨p,0,gokD undSp sizeSp rfl (h4.at b3 (by simp)) rfl,_,hd,gok_agg hdu szDecl hda (h4.at b5 (by simp)) rfl,?_⟩
    have hlt:SizeOf.sizeOf y<n:=by
     obtain⟨i,hi,rfl⟩:=List.mem_iff_getElem.1 hy
     have:=sizeOf_el hi
     omega
    refine typed_ok n hlt (ex.2 y hy) hd hps hD b0' λg5 h5=>⟨_,rfl,hQ4 g5 (h4.trans (h5.le (λj hj=>hj) h4.tlen))⟩
   ·have:(!((elsOf a1).any λy=>!(typedT l ps (absTy y))))=typedTs l ps ((elsOf a1).map absTy):=by
     clear hQ hps e1 b4 hc exl ex t1 hg2 hsz hx
     induction elsOf a1 with
     |nil=>rfl
     |cons y ys ih=>simp only[List.any_cons,List.map_cons,typedTs,Bool.not_or,Bool.not_not,ih]
    rw[this]
    exact hQ g' (kp.trans (hk.le (λj hj=>hj) (by rw[ht3];exact Nat.le_refl _)))
  refine w147_1 ⟨k1,gokD undInt sizeInt' rfl b4 rfl,Br_iff.2 ⟨λq=>?_,λq=>Br_iff.2 ⟨λq2=>?_,λq2=>L8 ?_⟩⟩⟩
  ·rw[q] at hQ
   refine⟨a2,ha2,gokD undStrs sizeStrs rfl b5 rfl,s1,hs1,gokD undStr sizeStr' rfl b4 rfl,sContains_ok ha2 hps hs1 ⟨_,rfl,hQ g3 kp⟩⟩
  ·rw[q,q2] at hQ
   refine⟨p,0,gokD undSp sizeSp rfl b3 rfl,D,hD.ty,gokD undDecls sizeDecls rfl b0 rfl,?_⟩
   refine indexDecl_ok (s:=s1) hD (λy hy Q hq=>?_) ⟨_,rfl,?_⟩
   ·have hty:=(hD.ty.els undDecls).2 y hy
    obtain⟨s3,a3,b3',p3,rfl,_⟩:=decl_ty hty
    exact w205 hty ⟨s1,hs1,gokD undStr sizeStr' rfl b4 rfl,hq⟩
   ·rcases declIx_spec s1 l 0 with ⟨i,d',e',hi,hp⟩|⟨e',hp⟩
    ·rw[hp] at hQ
     have e':declIx s1 l 0=((0+i:Nat):Int):=e'
     rw[Nat.zero_add] at e'
     rw[e']
     have hlt:i<l.length:=(List.getElem?_eq_some_iff.1 hi).1
     obtain⟨s4,a4,b4',p4,eg,_,ha4,_,el⟩:=hD.get hlt
     refine brF (by simp) ⟨p,0,gokD undSp sizeSp rfl b3 rfl,D,hD.ty,gokD undDecls sizeDecls rfl b0 rfl,by rw[hD.len];exact inB hlt,a1,t1,gokD undTypes sizeTypes rfl b4 rfl,?_⟩
     rw[eg]
     have hl4:d'.ps.length=(elsOf a4).length:=by
      rw[List.getElem?_eq_getElem hlt] at hi
      cases hi
      rw[el]
      simp
     simp only[cond_true,cond_false,hl4] at hQ
     refine Br_iff.2 ⟨λq5=>?_,λq5=>L8 ?_⟩
     ·have:((elsOf a4).length==(elsOf a1).length)=false:=by
       rw[beq_eq_false_iff_ne]
       intro e
       rw[show elsOf (fld (Dat.agg [Dat.str s4,a4,b4',Dat.int IntKind.i64 p4]) 1)=elsOf a4 from rfl,e] at q5
       simp at q5
      rw[this] at hQ
      exact hQ g3 kp
     ·have:((elsOf a4).length==(elsOf a1).length)=true:=by
       have q5:(((elsOf a4).length:Int)!=((elsOf a1).length:Int))=false:=q5
       have:((elsOf a4).length:Int)=(elsOf a1).length:=by simpa using q5
       rw[beq_iff_eq]
       omega
      rw[this] at hQ
      exact hQ
    ·rw[hp] at hQ
     have e':declIx s1 l 0=-1:=e'
     rw[e']
     exact brT (by decide) (hQ g3 kp)
  ·rw[q,q2] at hQ
   exact hQ
end Go.Proofs.YtgmapdcdmomioaaGreatDoor.Pa
