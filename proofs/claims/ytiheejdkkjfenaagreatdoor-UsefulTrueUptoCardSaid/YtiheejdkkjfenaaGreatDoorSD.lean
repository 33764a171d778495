/- Scope: which names are wrong first, told plainly. What functions of the program do, printed by wip/tools/sx/sx.py. Scope: the program's look at declared types. Scope: the program's look at all declared types. Scope: the program's look at expressions; its Check. Scope: the program's Check. -/
import Derived.Test.YtiheejdkkjfenaaGreatDoorSC
import Derived.Test.YtiheejdkkjfenaaGreatDoorRI
import Derived.Test.YtiheejdkkjfenaaGreatDoorSA
set_option linter.all false
set_option autoImplicit false
set_option maxRecDepth 100000
namespace Go.Proofs.YtiheejdkkjfenaaGreatDoor.Pa
open Go Go.Proofs.YtiheejdkkjfenaaGreatDoor.Am
def cnFs(s:Str):List Cn→Option Nat
 |[]=>none
 |c::l=>bif c.s==s then some c.fs.length else cnFs s l
def dcFs(s:Str):List Dc→Option Nat
 |[]=>none
 |d::l=>match cnFs s d.cs with
  |some n=>some n
  |none=>dcFs s l
def dcPs(s:Str):List Dc→Option Nat
 |[]=>none
 |d::l=>bif d.s==s then some d.ps.length else dcPs s l
def declIx(s:Str):List Dc→Int→Int
 |[],_=>-1
 |d::l,i=>bif d.s==s then i else declIx s l (i+1)
theorem findCn_spec(s:Str):∀(l:List Cn) (i:Int),(∃(k:Nat) (c:Cn),findCn s l i=some (i+k)∧l[k]?=some c∧cnFs s l=some c.fs.length)∨(findCn s l i=none∧cnFs s l=none)
 |[],i=>.inr ⟨rfl,rfl⟩
 |c::l,i=>by
  cases h:c.s==s with
  |true=>exact .inl ⟨0,c,by simp[findCn,h],rfl,by simp[cnFs,h]⟩
  |false=>
   rcases findCn_spec s l (i+1) with ⟨k,c',h1,h2,h3⟩|⟨h1,h2⟩
   ·exact .inl ⟨k+1,c',by simp only[findCn,h,cond_false,h1];congr 1;omega,by simpa using h2,by simp[cnFs,h,h3]⟩
   ·exact .inr ⟨by simp[findCn,h,h1],by simp[cnFs,h,h2]⟩
theorem findDc_spec(s:Str):∀(l:List Dc) (i:Int),(∃(k j:Nat) (d:Dc) (c:Cn),findDc s l i=(i+k,(j:Int),true)∧l[k]?=some d∧d.cs[j]?=some c∧dcFs s l=some c.fs.length)∨(findDc s l i=(0,0,false)∧dcFs s l=none)
 |[],i=>.inr ⟨rfl,rfl⟩
 |d::l,i=>by
  rcases findCn_spec s d.cs 0 with ⟨k,c,h1,h2,h3⟩|⟨h1,h2⟩
  ·exact .inl ⟨0,k,d,c,by simp[findDc,h1],rfl,h2,by simp[dcFs,h3]⟩
  ·rcases findDc_spec s l (i+1) with ⟨k,j,d',c',q1,q2,q3,q4⟩|⟨q1,q2⟩
   ·exact .inl ⟨k+1,j,d',c',by simp only[findDc,h1,q1];congr 1;omega,by simpa using q2,q3,by simp[dcFs,h2,q4]⟩
   ·exact .inr ⟨by simp[findDc,h1,q1],by simp[dcFs,h2,q2]⟩
theorem declIx_spec(s:Str):∀(l:List Dc) (i:Nat),(∃(k:Nat) (d:Dc),declIx s l i=((i+k:Nat):Int)∧l[k]?=some d∧dcPs s l=some d.ps.length)∨(declIx s l i=-1∧dcPs s l=none)
 |[],i=>.inr ⟨rfl,rfl⟩
 |d::l,i=>by
  cases h:d.s==s with
  |true=>exact .inl ⟨0,d,by simp[declIx,h],rfl,by simp[dcPs,h]⟩
  |false=>
   rcases declIx_spec s l (i+1) with ⟨k,d',h1,h2,h3⟩|⟨h1,h2⟩
   ·refine .inl ⟨k+1,d',?_,by simpa using h2,by simp[dcPs,h,h3]⟩
    simp only[declIx,h,cond_false]
    rw[show((i:Int)+1)=((i+1:Nat):Int) from by omega,h1]
    omega
   ·refine .inr ⟨?_,by simp[dcPs,h,h2]⟩
    simp only[declIx,h,cond_false]
    rw[show((i:Int)+1)=((i+1:Nat):Int) from by omega,h1]
def dupS(acc:List Str):List Str→Bool
 |[]=>false
 |x::xs=>acc.contains x||dupS (acc++[x]) xs
def consBad(bf:List Dc)(acc:List Str):List Cn→Bool
 |[]=>false
 |c::cs=>(dcFs c.s bf).isSome||(acc.contains c.s||consBad bf (acc++[c.s]) cs)
def sInt:Str:=[105,110,116]
def declBad(bf:List Dc)(d:Dc):Bool:=d.s==sInt||(bf.any (λe=>e.s==d.s)||(dupS [] d.ps||consBad bf [] d.cs))
def firstBad(bf:List Dc):List Dc→Option Int
 |[]=>none
 |d::ds=>bif declBad bf d then some d.p else firstBad (bf++[d]) ds
mutual
def typedT(l:List Dc)(ps:List Str):Ty→Bool
 |.mk k s _ a=>bif k==2 then ps.contains s else bif k==4 then(match dcPs s l with|none=>false|some m=>m==a.length&&typedTs l ps a) else typedTs l ps a
def typedTs(l:List Dc)(ps:List Str):List Ty→Bool
 |[]=>true
 |t::ts=>typedT l ps t&&typedTs l ps ts
end
def consTy(l:List Dc)(ps:List Str):List Cn→Bool
 |[]=>true
 |c::cs=>typedTs l ps c.fs&&consTy l ps cs
def firstTy(l:List Dc):List Dc→Option Int
 |[]=>none
 |d::ds=>bif consTy l d.ps d.cs then firstTy l ds else some d.p
def conOk(l:List Dc)(s:Str)(n:Nat):Bool:=dcFs s l==some n
inductive PR where
 |bad (p:Int)
 |ok (l:List Str)
mutual
def patF(l:List Dc):Pt→List Str→PR
 |.mk k s _ a p,ns=>bif k==2 then(bif ns.contains s then .bad p else patFs l a (ns++[s])) else bif k==4&&!(conOk l s a.length) then .bad p else patFs l a ns
def patFs(l:List Dc):List Pt→List Str→PR
 |[],ns=>.ok ns
 |x::xs,ns=>match patF l x ns with
  |.bad p=>.bad p
  |.ok ns'=>patFs l xs ns'
end
def namesAt(l:List Dc)(k:Int)(s r:Str)(b:List Pt)(i:Nat):PR:=
 bif k==7&&decide (0<i) then(match b[i-1]? with|some x=>patF l x []|none=>.ok []) else .ok (bindsOf k s r b i)
mutual
def exprF(l:List Dc):Ex'→List Str→Option Int
 |.mk k s r _ a b p,bd=>bif k==1&&!(bd.contains s) then some p else bif k==8&&!(conOk l s a.length) then some p else exprFs l (namesAt l k s r b) a 0 bd
def exprFs(l:List Dc)(nm:Nat→PR):List Ex'→Nat→List Str→Option Int
 |[],_,_=>none
 |x::xs,i,bd=>match nm i with
  |.bad p=>some p
  |.ok ns=>match exprF l x (bd++ns) with
   |some p=>some p
   |none=>exprFs l nm xs (i+1) bd
end
def chkNames(P:Pg):Int×Int:=
 match firstBad (baseL.map absDc) P.ds with
 |some p=>(141,p)
 |none=>match firstTy (allDc P) P.ds with
  |some p=>(141,p)
  |none=>match exprF (allDc P) P.e [] with
   |some p=>(140,p)
   |none=>(0,0)
def chk14(P:Pg):Int×Int:=bif rCheckP P then chkNames P else(1,0)
theorem beq_sym(a b:Str):(a==b)=(b==a):=by rw[Bool.eq_iff_iff,beq_iff_eq,beq_iff_eq];exact⟨Eq.symm,Eq.symm⟩
theorem cnFs_mem(s:Str)(l:List Cn):(cnFs s l).isSome=(l.map (·.s)).contains s:=by
 induction l with
 |nil=>rfl
 |cons c l ih=>
  rw[List.map_cons,List.contains_cons,←ih]
  rw[beq_sym s c.s]
  cases h:c.s==s<;>simp[cnFs,h]
def conNames(l:List Dc):List Str:=l.flatMap λd=>d.cs.map (·.s)
theorem dcFs_mem(s:Str)(l:List Dc):(dcFs s l).isSome=(conNames l).contains s:=by
 induction l with
 |nil=>rfl
 |cons d l ih=>
  have:conNames (d::l)=d.cs.map (·.s)++conNames l:=by simp[conNames]
  rw[this,List.contains_append,←ih,←cnFs_mem]
  show(match cnFs s d.cs with|some n=>some n|none=>dcFs s l).isSome=_
  cases cnFs s d.cs<;>simp
end Go.Proofs.YtiheejdkkjfenaaGreatDoor.Pa
namespace Go.Proofs.YtiheejdkkjfenaaGreatDoor.Pa
open Go Go.Proofs.YtiheejdkkjfenaaGreatDoor.Am
def lo109:List CutI:=[]
theorem w109{b0:Bool}{n1:Int}{n2:Int}{g:Glob}{Qf:OGP}
 (h:Br (!b0) (Qf (.panic (.iface 111 (.agg [.int .i64 (intOf (.int .i64 n1)),.int .i64 (intOf (.int .i64 n2))]))) g) (Qf (.val (.tuple [])) g)):
 EvF TT 109 [.bool b0,.int .i64 n1,.int .i64 n2] g Qf:=
 sx_fun (rk:=rk) (fn:=Tryz.f109) (loops:=lo109) (joins:=[]) (n:=100000) (args:=[(4,.bool b0),(33,.int .i64 n1),(3,.int .i64 n2)]) rfl rfl rfl rfl ⟨tyBool rfl,tyInt rfl,tyInt rfl,trivial⟩ (by kernel_rfl) h
def L56_2(x0:Dat)(s1:List UInt8)(n5:Int)(g:Glob)(Qf:OGP):Prop:=CutP TT Tryz.f56 [1,0,1,0] Qf (mkC TT 56 Tryz.f56 2 [(0,.v 22 (x0)),(1,.v 9 (.str s1)),(5,.v 3 (.int .i64 n5))] [] g)
def lo56:List CutI:=[⟨2,[(0,.keep),(1,.keep),(5,.keep)],[]⟩]
theorem w56{x0:Dat}{s1:List UInt8}{g:Glob}{Qf:OGP}(h0:HasTy TT 22 x0)(h1:s1.length≤2^40)
 (h:L56_2 x0 s1 0 g Qf):
 EvF TT 56 [x0,.str s1] g Qf:=
 sx_fun (rk:=rk) (fn:=Tryz.f56) (loops:=lo56) (joins:=[]) (n:=100000) (args:=[(22,x0),(9,.str s1)]) rfl rfl rfl rfl ⟨h0,tyStr rfl h1,trivial⟩ (by kernel_rfl) h
theorem w56_2{x0:Dat}{s1:List UInt8}{n5:Int}{g:Glob}{Qf:OGP}
 (h:Br (decide (n5<(↑(elsOf x0).length:Int))) (InB n5 (elsOf x0).length∧Br (strOf (fld (getE (elsOf x0) n5) 0)==s1) (Qf (.val (.d (.int .i64 n5))) g) (L56_2 x0 s1 (IntKind.i64.wrap (n5+1)) g Qf)) (Qf (.val (.d (.int .i64 (-1)))) g)):
 L56_2 x0 s1 n5 g Qf:=sx_cut (rk:=rk) (loops:=lo56) (joins:=[]) (n:=100000) (by kernel_rfl) h
def L53_5(x0:Dat)(n1:Int)(n6:Int)(y5:Dat)(g:Glob)(Qf:OGP):Prop:=CutP TT Tryz.f53 [1,1,1,0,1,0] Qf (mkC TT 53 Tryz.f53 2 [(0,.v 22 (x0)),(1,.v 3 (.int .i64 n1)),(5,.loc 5 0 0),(6,.v 3 (.int .i64 n6))] [(5,.whole 84 y5)] g)
def L53_10(x0:Dat)(n1:Int)(n7:Int)(y5:Dat)(g:Glob)(Qf:OGP):Prop:=CutP TT Tryz.f53 [1,1,1,1,0,1,0] Qf (mkC TT 53 Tryz.f53 2 [(0,.v 22 (x0)),(1,.v 3 (.int .i64 n1)),(5,.loc 5 0 0),(7,.v 3 (.int .i64 n7))] [(5,.whole 84 y5)] g)
def L53_16(x0:Dat)(n1:Int)(n7:Int)(n11:Int)(y5:Dat)(g:Glob)(Qf:OGP):Prop:=CutP TT Tryz.f53 [1,1,1,1,0,1,0,0,1,0,0,1,1,0] Qf (mkC TT 53 Tryz.f53 2 [(0,.v 22 (x0)),(1,.v 3 (.int .i64 n1)),(5,.loc 5 0 0),(7,.v 3 (.int .i64 n7)),(11,.v 3 (.int .i64 n11))] [(5,.whole 84 y5)] g)
def lo53:List CutI:=[⟨5,[(0,.keep),(1,.keep),(5,.keep),(6,.keep)],[(5,.whole 84)]⟩,⟨10,[(0,.keep),(1,.keep),(5,.keep),(7,.keep)],[(5,.whole 84)]⟩,⟨16,[(0,.keep),(1,.keep),(5,.keep),(7,.keep),(11,.keep)],[(5,.whole 84)]⟩]
theorem w53{x0:Dat}{n1:Int}{g:Glob}{Qf:OGP}(h0:HasTy TT 22 x0)
 (h:InB n1 (elsOf x0).length∧Br (strOf (fld (getE (elsOf x0) n1) 0)==[105,110,116]) (Qf (.val (.d (.bool true))) g) (InS 0 n1 (elsOf x0).length∧EvF TT 56 [slSub 4 x0 (elsOf x0) 0 n1,.str (strOf (fld (getE (elsOf x0) n1) 0))] g (KQ Qf λv g'=>∃n,v=.d (.int .i64 n)∧Br (decide (0≤n)) (Qf (.val (.d (.bool true))) g') (L53_5 x0 n1 0 (getE (elsOf x0) n1) g' Qf)))):
 EvF TT 53 [x0,.int .i64 n1] g Qf:=
 sx_fun (rk:=rk) (fn:=Tryz.f53) (loops:=lo53) (joins:=[]) (n:=100000) (args:=[(22,x0),(3,.int .i64 n1)]) rfl rfl rfl rfl ⟨h0,tyInt rfl,trivial⟩ (by kernel_rfl) h
theorem w53_5{x0:Dat}{n1:Int}{n6:Int}{y5:Dat}{g:Glob}{Qf:OGP}
 (h:Br (decide (n6<(↑(elsOf (fld y5 1)).length:Int))) (InS 0 n6 (elsOf (fld y5 1)).length∧InB n6 (elsOf (fld y5 1)).length∧EvF TT 89 [slSub 1 (fld y5 1) (elsOf (fld y5 1)) 0 n6,.str (strOf (fld (getE (elsOf (fld y5 1)) n6) 0))] g (KQ Qf λv g'=>∃b,v=.d (.bool b)∧Br b (Qf (.val (.d (.bool true))) g') (L53_5 x0 n1 (IntKind.i64.wrap (n6+1)) y5 g' Qf))) (L53_10 x0 n1 0 y5 g Qf)):
 L53_5 x0 n1 n6 y5 g Qf:=sx_cut (rk:=rk) (loops:=lo53) (joins:=[]) (n:=100000) (by kernel_rfl) h
theorem w53_10{x0:Dat}{n1:Int}{n7:Int}{y5:Dat}{g:Glob}{Qf:OGP}
 (h:Br (decide (n7<(↑(elsOf (fld y5 2)).length:Int))) (InS 0 n1 (elsOf x0).length∧InB n7 (elsOf (fld y5 2)).length∧EvF TT 50 [slSub 4 x0 (elsOf x0) 0 n1,.str (strOf (fld (getE (elsOf (fld y5 2)) n7) 0))] g (KQ Qf λv g'=>∃n n_1 b,RetT v [.int .i64 n,.int .i64 n_1,.bool b]∧Br b (Qf (.val (.d (.bool true))) g') (L53_16 x0 n1 n7 0 y5 g' Qf))) (Qf (.val (.d (.bool false))) g)):
 L53_10 x0 n1 n7 y5 g Qf:=sx_cut (rk:=rk) (loops:=lo53) (joins:=[]) (n:=100000) (by kernel_rfl) h
theorem w53_16{x0:Dat}{n1:Int}{n7:Int}{n11:Int}{y5:Dat}{g:Glob}{Qf:OGP}
 (h:Br (decide (n11<n7)) (InB n11 (elsOf (fld y5 2)).length∧InB n7 (elsOf (fld y5 2)).length∧Br (strOf (fld (getE (elsOf (fld y5 2)) n11) 0)==strOf (fld (getE (elsOf (fld y5 2)) n7) 0)) (Qf (.val (.d (.bool true))) g) (L53_16 x0 n1 n7 (IntKind.i64.wrap (n11+1)) y5 g Qf)) (L53_10 x0 n1 (IntKind.i64.wrap (n7+1)) y5 g Qf)):
 L53_16 x0 n1 n7 n11 y5 g Qf:=sx_cut (rk:=rk) (loops:=lo53) (joins:=[]) (n:=100000) (by kernel_rfl) h
def L54_9(x0:Dat)(x1:Dat)(n8:Int)(y5:Dat)(g:Glob)(Qf:OGP):Prop:=CutP TT Tryz.f54 [1,1,0,1,0] Qf (mkC TT 54 Tryz.f54 3 [(0,.v 22 (x0)),(1,.v 82 (x1)),(5,.loc 5 0 0),(8,.v 3 (.int .i64 n8))] [(5,.whole 61 y5)] g)
def lo54:List CutI:=[⟨9,[(0,.keep),(1,.keep),(5,.keep),(8,.keep)],[(5,.whole 61)]⟩]
theorem w54{x0:Dat}{x1:Dat}{x2:Dat}{g:Glob}{Qf:OGP}(h0:HasTy TT 22 x0)(h1:HasTy TT 82 x1)(h2:HasTy TT 61 x2)
 (h:Br (intOf (fld x2 0)==2) (EvF TT 89 [x1,.str (strOf (fld x2 1))] g (KQ Qf λv g'=>∃b,v=.d (.bool b)∧Qf (.val (.d (.bool b))) g')) (Br (intOf (fld x2 0)==4) (EvF TT 56 [x0,.str (strOf (fld x2 1))] g (KQ Qf λv g'=>∃n,v=.d (.int .i64 n)∧Br (decide (n<0)) (Qf (.val (.d (.bool false))) g') (InB n (elsOf x0).length∧Br ((↑(elsOf (fld (getE (elsOf x0) n) 1)).length:Int)!=(↑(elsOf (fld x2 3)).length:Int)) (Qf (.val (.d (.bool false))) g') (L54_9 x0 x1 0 x2 g' Qf)))) (L54_9 x0 x1 0 x2 g Qf))):
 EvF TT 54 [x0,x1,x2] g Qf:=
 sx_fun (rk:=rk) (fn:=Tryz.f54) (loops:=lo54) (joins:=[]) (n:=100000) (args:=[(22,x0),(82,x1),(61,x2)]) rfl rfl rfl rfl ⟨h0,h1,h2,trivial⟩ (by kernel_rfl) h
theorem w54_9{x0:Dat}{x1:Dat}{n8:Int}{y5:Dat}{g:Glob}{Qf:OGP}
 (h:Br (decide (n8<(↑(elsOf (fld y5 3)).length:Int))) (InB n8 (elsOf (fld y5 3)).length∧EvF TT 54 [x0,x1,getE (elsOf (fld y5 3)) n8] g (KQ Qf λv g'=>∃b,v=.d (.bool b)∧Br (!b) (Qf (.val (.d (.bool false))) g') (L54_9 x0 x1 (IntKind.i64.wrap (n8+1)) y5 g' Qf))) (Qf (.val (.d (.bool true))) g)):
 L54_9 x0 x1 n8 y5 g Qf:=sx_cut (rk:=rk) (loops:=lo54) (joins:=[]) (n:=100000) (by kernel_rfl) h
def lo90:List CutI:=[]
theorem w90{p0:Nat}{n1:Int}{g:Glob}{Qf:OGP}
 (h:∃n,GOk TT 3 g p0 2 (.int .i64 n)∧Br (n==0) (GPut g p0 2 1∧GPut (gput g p0 2 (.int .i64 140)) p0 1 [3].length∧Qf (.val (.tuple [])) (gput (gput g p0 2 (.int .i64 140)) p0 1 (.int .i64 n1))) (Qf (.val (.tuple [])) g)):
 EvF TT 90 [.ptr (some (p0,0)),.int .i64 n1] g Qf:=
 sx_fun (rk:=rk) (fn:=Tryz.f90) (loops:=lo90) (joins:=[]) (n:=100000) (args:=[(97,.ptr (some (p0,0))),(3,.int .i64 n1)]) rfl rfl rfl rfl ⟨tyPtr rfl,tyInt rfl,trivial⟩ (by kernel_rfl) h
def lo93:List CutI:=[]
theorem w93{p0:Nat}{s1:List UInt8}{n2:Int}{n3:Int}{g:Glob}{Qf:OGP}(h1:s1.length≤2^40)
 (h:∃x,HasTy TT 22 x∧GOk TT 22 g p0 0 x∧EvF TT 50 [x,.str s1] g (KQ Qf λv g'=>∃n n_1 b,RetT v [.int .i64 n,.int .i64 n_1,.bool b]∧Br (!b) (EvF TT 90 [.ptr (some (p0,0)),.int .i64 n3] g' (KQ Qf λv g'=>RetT v []∧Qf (.val (.tuple [])) g')) (∃x,HasTy TT 22 x∧GOk TT 22 g' p0 0 x∧InB n (elsOf x).length∧InB n_1 (elsOf (fld (getE (elsOf x) n) 2)).length∧Br ((↑(elsOf (fld (getE (elsOf (fld (getE (elsOf x) n) 2)) n_1) 1)).length:Int)!=n2) (EvF TT 90 [.ptr (some (p0,0)),.int .i64 n3] g' (KQ Qf λv g'=>RetT v []∧Qf (.val (.tuple [])) g')) (Qf (.val (.tuple [])) g')))):
 EvF TT 93 [.ptr (some (p0,0)),.str s1,.int .i64 n2,.int .i64 n3] g Qf:=
 sx_fun (rk:=rk) (fn:=Tryz.f93) (loops:=lo93) (joins:=[]) (n:=100000) (args:=[(97,.ptr (some (p0,0))),(9,.str s1),(3,.int .i64 n2),(3,.int .i64 n3)]) rfl rfl rfl rfl ⟨tyPtr rfl,tyStr rfl h1,tyInt rfl,tyInt rfl,trivial⟩ (by kernel_rfl) h
def L92_11(p0:Nat)(x2:Dat)(n7:Int)(y4:Dat)(g:Glob)(Qf:OGP):Prop:=CutP TT Tryz.f92 [1,1,1,0,1,0] Qf (mkC TT 92 Tryz.f92 3 [(0,.v 97 (.ptr (some (p0,0)))),(2,.v 82 (x2)),(4,.loc 4 0 0),(7,.v 3 (.int .i64 n7))] [(4,.whole 52 y4)] g)
def lo92:List CutI:=[⟨11,[(0,.keep),(2,.keep),(4,.keep),(7,.keep)],[(4,.whole 52)]⟩]
theorem w92{p0:Nat}{x1:Dat}{x2:Dat}{g:Glob}{Qf:OGP}(h1:HasTy TT 52 x1)(h2:HasTy TT 82 x2)
 (h:∃n,GOk TT 3 g p0 2 (.int .i64 n)∧Br (n !=0) (∀(v:Val),RetV v x2→Qf (.val v) g) (Br (intOf (fld x1 0)==2) (EvF TT 89 [x2,.str (strOf (fld x1 1))] g (KQ Qf λv g'=>∃b,v=.d (.bool b)∧Br b (EvF TT 90 [.ptr (some (p0,0)),.int .i64 (intOf (fld x1 4))] g' (KQ Qf λv g'=>RetT v []∧Fits ((elsOf x2).length+[Dat.str (strOf (fld x1 1))].length) 16∧∃r g'_1,gapp 1 x2 [.str (strOf (fld x1 1))] (gtok g' 1 1)=some (r,g'_1)∧∀(v:Val),RetV v r→Qf (.val v) g'_1)) (Fits ((elsOf x2).length+[Dat.str (strOf (fld x1 1))].length) 16∧∃r g'_1,gapp 1 x2 [.str (strOf (fld x1 1))] (gtok g' 1 1)=some (r,g'_1)∧∀(v:Val),RetV v r→Qf (.val v) g'_1))) (Br (intOf (fld x1 0)==4) (EvF TT 93 [.ptr (some (p0,0)),.str (strOf (fld x1 1)),.int .i64 (↑(elsOf (fld x1 3)).length:Int),.int .i64 (intOf (fld x1 4))] g (KQ Qf λv g'=>RetT v []∧L92_11 p0 x2 0 x1 g' Qf)) (L92_11 p0 x2 0 x1 g Qf)))):
 EvF TT 92 [.ptr (some (p0,0)),x1,x2] g Qf:=
 sx_fun (rk:=rk) (fn:=Tryz.f92) (loops:=lo92) (joins:=[]) (n:=100000) (args:=[(97,.ptr (some (p0,0))),(52,x1),(82,x2)]) rfl rfl rfl rfl ⟨tyPtr rfl,h1,h2,trivial⟩ (by kernel_rfl) h
theorem w92_11{p0:Nat}{x2:Dat}{n7:Int}{y4:Dat}{g:Glob}{Qf:OGP}
 (h:Br (decide (n7<(↑(elsOf (fld y4 3)).length:Int))) (InB n7 (elsOf (fld y4 3)).length∧EvF TT 92 [.ptr (some (p0,0)),getE (elsOf (fld y4 3)) n7,x2] g (KQ Qf λv g'=>∃x,HasTy TT 82 x∧RetV v x∧L92_11 p0 x (IntKind.i64.wrap (n7+1)) y4 g' Qf)) (∀(v:Val),RetV v x2→Qf (.val v) g)):
 L92_11 p0 x2 n7 y4 g Qf:=sx_cut (rk:=rk) (loops:=lo92) (joins:=[]) (n:=100000) (by kernel_rfl) h
def L55_23(p0:Nat)(x2:Dat)(n6:Int)(y4:Dat)(g:Glob)(Qf:OGP):Prop:=CutP TT Tryz.f55 [1,1,1,0,1,1,1,1,1,1,1,1,1,0,1,1,0] Qf (mkC TT 55 Tryz.f55 3 [(0,.v 97 (.ptr (some (p0,0)))),(2,.v 82 (x2)),(4,.loc 4 0 0),(6,.v 3 (.int .i64 n6))] [(4,.whole 26 y4)] g)
def L55_6(p0:Nat)(x2:Dat)(n8:Int)(y4:Dat)(g:Glob)(Qf:OGP):Prop:=CutP TT Tryz.f55 [1,1,1,0,1,1,1,1,1,1,1,1,1,1,1,1,0] Qf (mkC TT 55 Tryz.f55 3 [(0,.v 97 (.ptr (some (p0,0)))),(2,.v 82 (x2)),(4,.loc 4 0 0),(8,.v 3 (.int .i64 n8))] [(4,.whole 26 y4)] g)
def lo55:List CutI:=[⟨23,[(0,.keep),(2,.keep),(4,.keep),(6,.keep)],[(4,.whole 26)]⟩,⟨6,[(0,.keep),(2,.keep),(4,.keep),(8,.keep)],[(4,.whole 26)]⟩]
theorem w55{p0:Nat}{x1:Dat}{x2:Dat}{g:Glob}{Qf:OGP}(h1:HasTy TT 26 x1)(h2:HasTy TT 82 x2)
 (h:∃n,GOk TT 3 g p0 2 (.int .i64 n)∧Br (n !=0) (Qf (.val (.tuple [])) g) (Br (intOf (fld x1 0)==1) (EvF TT 89 [x2,.str (strOf (fld x1 1))] g (KQ Qf λv g'=>∃b,v=.d (.bool b)∧Br (!b) (EvF TT 90 [.ptr (some (p0,0)),.int .i64 (intOf (fld x1 6))] g' (KQ Qf λv g'=>RetT v []∧Qf (.val (.tuple [])) g')) (Qf (.val (.tuple [])) g'))) (Br (intOf (fld x1 0)==3) (InB 0 (elsOf (fld x1 4)).length∧EvF TT 91 [x2,.sl 1 [.str (strOf (fld x1 1))]] g (KQ Qf λv g'=>∃x,HasTy TT 82 x∧RetV v x∧EvF TT 55 [.ptr (some (p0,0)),getE (elsOf (fld x1 4)) 0,x] g' (KQ Qf λv g'=>RetT v []∧Qf (.val (.tuple [])) g'))) (Br (intOf (fld x1 0)==5) (InB 0 (elsOf (fld x1 4)).length∧EvF TT 55 [.ptr (some (p0,0)),getE (elsOf (fld x1 4)) 0,x2] g (KQ Qf λv g'=>RetT v []∧InB 1 (elsOf (fld x1 4)).length∧EvF TT 91 [x2,.sl 1 [.str (strOf (fld x1 1))]] g' (KQ Qf λv g'=>∃x,HasTy TT 82 x∧RetV v x∧EvF TT 55 [.ptr (some (p0,0)),getE (elsOf (fld x1 4)) 1,x] g' (KQ Qf λv g'=>RetT v []∧Qf (.val (.tuple [])) g')))) (Br (intOf (fld x1 0)==6) (InB 0 (elsOf (fld x1 4)).length∧EvF TT 91 [x2,.sl 1 [.str (strOf (fld x1 1)),.str (strOf (fld x1 2))]] g (KQ Qf λv g'=>∃x,HasTy TT 82 x∧RetV v x∧EvF TT 55 [.ptr (some (p0,0)),getE (elsOf (fld x1 4)) 0,x] g' (KQ Qf λv g'=>RetT v []∧InB 1 (elsOf (fld x1 4)).length∧EvF TT 91 [x2,.sl 1 [.str (strOf (fld x1 1))]] g' (KQ Qf λv g'=>∃x,HasTy TT 82 x∧RetV v x∧EvF TT 55 [.ptr (some (p0,0)),getE (elsOf (fld x1 4)) 1,x] g' (KQ Qf λv g'=>RetT v []∧Qf (.val (.tuple [])) g'))))) (Br (intOf (fld x1 0)==7) (InB 0 (elsOf (fld x1 4)).length∧EvF TT 55 [.ptr (some (p0,0)),getE (elsOf (fld x1 4)) 0,x2] g (KQ Qf λv g'=>RetT v []∧L55_23 p0 x2 0 x1 g' Qf)) (Br (intOf (fld x1 0)==8) (EvF TT 93 [.ptr (some (p0,0)),.str (strOf (fld x1 1)),.int .i64 (↑(elsOf (fld x1 4)).length:Int),.int .i64 (intOf (fld x1 6))] g (KQ Qf λv g'=>RetT v []∧L55_6 p0 x2 0 x1 g' Qf)) (L55_6 p0 x2 0 x1 g Qf)))))))):
 EvF TT 55 [.ptr (some (p0,0)),x1,x2] g Qf:=
 sx_fun (rk:=rk) (fn:=Tryz.f55) (loops:=lo55) (joins:=[]) (n:=100000) (args:=[(97,.ptr (some (p0,0))),(26,x1),(82,x2)]) rfl rfl rfl rfl ⟨tyPtr rfl,h1,h2,trivial⟩ (by kernel_rfl) h
theorem w55_23{p0:Nat}{x2:Dat}{n6:Int}{y4:Dat}{g:Glob}{Qf:OGP}
 (h:Br (decide (n6<(↑(elsOf (fld y4 5)).length:Int))) (InB n6 (elsOf (fld y4 5)).length∧EvF TT 92 [.ptr (some (p0,0)),getE (elsOf (fld y4 5)) n6,.nil] g (KQ Qf λv g'=>∃x,HasTy TT 82 x∧RetV v x∧InB (IntKind.i64.wrap (n6+1)) (elsOf (fld y4 4)).length∧EvF TT 91 [x2,x] g' (KQ Qf λv g'=>∃x,HasTy TT 82 x∧RetV v x∧EvF TT 55 [.ptr (some (p0,0)),getE (elsOf (fld y4 4)) (IntKind.i64.wrap (n6+1)),x] g' (KQ Qf λv g'=>RetT v []∧L55_23 p0 x2 (IntKind.i64.wrap (n6+1)) y4 g' Qf)))) (Qf (.val (.tuple [])) g)):
 L55_23 p0 x2 n6 y4 g Qf:=sx_cut (rk:=rk) (loops:=lo55) (joins:=[]) (n:=100000) (by kernel_rfl) h
theorem w55_6{p0:Nat}{x2:Dat}{n8:Int}{y4:Dat}{g:Glob}{Qf:OGP}
 (h:Br (decide (n8<(↑(elsOf (fld y4 4)).length:Int))) (InB n8 (elsOf (fld y4 4)).length∧EvF TT 55 [.ptr (some (p0,0)),getE (elsOf (fld y4 4)) n8,x2] g (KQ Qf λv g'=>RetT v []∧L55_6 p0 x2 (IntKind.i64.wrap (n8+1)) y4 g' Qf)) (Qf (.val (.tuple [])) g)):
 L55_6 p0 x2 n8 y4 g Qf:=sx_cut (rk:=rk) (loops:=lo55) (joins:=[]) (n:=100000) (by kernel_rfl) h
def L28_5(x4:Dat)(n5:Int)(y1:Dat)(g:Glob)(Qf:OGP):Prop:=CutP TT Tryz.f28 [1,1,1,0,1,0] Qf (mkC TT 28 Tryz.f28 1 [(1,.loc 1 0 0),(4,.v 22 (x4)),(5,.v 3 (.int .i64 n5))] [(1,.whole 28 y1)] g)
def L28_10(x4:Dat)(n6:Int)(y1:Dat)(g:Glob)(Qf:OGP):Prop:=CutP TT Tryz.f28 [1,1,1,1,0,1,0] Qf (mkC TT 28 Tryz.f28 1 [(1,.loc 1 0 0),(4,.v 22 (x4)),(6,.v 3 (.int .i64 n6))] [(1,.whole 28 y1)] g)
def L28_13(x4:Dat)(n6:Int)(n7:Int)(y1:Dat)(g:Glob)(Qf:OGP):Prop:=CutP TT Tryz.f28 [1,1,1,1,0,1,0,0,1,0,0,1,0] Qf (mkC TT 28 Tryz.f28 1 [(1,.loc 1 0 0),(4,.v 22 (x4)),(6,.v 3 (.int .i64 n6)),(7,.v 3 (.int .i64 n7))] [(1,.whole 28 y1)] g)
def L28_16(x4:Dat)(n6:Int)(n7:Int)(n8:Int)(y1:Dat)(g:Glob)(Qf:OGP):Prop:=CutP TT Tryz.f28 [1,1,1,1,0,1,0,0,1,0,0,1,0,0,1,0,0,1,0] Qf (mkC TT 28 Tryz.f28 1 [(1,.loc 1 0 0),(4,.v 22 (x4)),(6,.v 3 (.int .i64 n6)),(7,.v 3 (.int .i64 n7)),(8,.v 3 (.int .i64 n8))] [(1,.whole 28 y1)] g)
def lo28:List CutI:=[⟨5,[(1,.keep),(4,.keep),(5,.keep)],[(1,.whole 28)]⟩,⟨10,[(1,.keep),(4,.keep),(6,.keep)],[(1,.whole 28)]⟩,⟨13,[(1,.keep),(4,.keep),(6,.keep),(7,.keep)],[(1,.whole 28)]⟩,⟨16,[(1,.keep),(4,.keep),(6,.keep),(7,.keep),(8,.keep)],[(1,.whole 28)]⟩]
theorem w28{x0:Dat}{g:Glob}{Qf:OGP}(h0:HasTy TT 28 x0)
 (h:EvF TT 52 [x0] g (KQ Qf λv g'=>∃b,v=.d (.bool b)∧Br (!b) (Qf (.val (.tuple [.d (.int .i64 1),.d (.int .i64 0)])) g') (EvF TT 15 [x0] g' (KQ Qf λv g'=>∃x,HasTy TT 22 x∧RetV v x∧L28_5 x 3 x0 g' Qf)))):
 EvF TT 28 [x0] g Qf:=
 sx_fun (rk:=rk) (fn:=Tryz.f28) (loops:=lo28) (joins:=[]) (n:=100000) (args:=[(28,x0)]) rfl rfl rfl rfl ⟨h0,trivial⟩ (by kernel_rfl) h
theorem w28_5{x4:Dat}{n5:Int}{y1:Dat}{g:Glob}{Qf:OGP}
 (h:Br (decide (n5<(↑(elsOf x4).length:Int))) (EvF TT 53 [x4,.int .i64 n5] g (KQ Qf λv g'=>∃b,v=.d (.bool b)∧Br b (InB n5 (elsOf x4).length∧Qf (.val (.tuple [.d (.int .i64 141),.d (.int .i64 (intOf (fld (getE (elsOf x4) n5) 3)))])) g') (L28_5 x4 (IntKind.i64.wrap (n5+1)) y1 g' Qf))) (L28_10 x4 3 y1 g Qf)):
 L28_5 x4 n5 y1 g Qf:=sx_cut (rk:=rk) (loops:=lo28) (joins:=[]) (n:=100000) (by kernel_rfl) h
theorem w28_10{x4:Dat}{n6:Int}{y1:Dat}{g:Glob}{Qf:OGP}
 (h:Br (decide (n6<(↑(elsOf x4).length:Int))) (L28_13 x4 n6 0 y1 g Qf) (EvF TT 55 [.ptr (some (g.boxes.length,0)),sub y1 1 7,.nil] (gnew g [x4,.int .i64 (intOf (.int .i64 0)),.int .i64 (intOf (.int .i64 0))]) (KQ Qf λv g'=>RetT v []∧∃n,GOk TT 3 g' g.boxes.length 2 (.int .i64 n)∧∃n_1,GOk TT 3 g' g.boxes.length 1 (.int .i64 n_1)∧Qf (.val (.tuple [.d (.int .i64 n),.d (.int .i64 n_1)])) g'))):
 L28_10 x4 n6 y1 g Qf:=sx_cut (rk:=rk) (loops:=lo28) (joins:=[]) (n:=100000) (by kernel_rfl) h
theorem w28_13{x4:Dat}{n6:Int}{n7:Int}{y1:Dat}{g:Glob}{Qf:OGP}
 (h:InB n6 (elsOf x4).length∧Br (decide (n7<(↑(elsOf (fld (getE (elsOf x4) n6) 2)).length:Int))) (L28_16 x4 n6 n7 0 y1 g Qf) (L28_10 x4 (IntKind.i64.wrap (n6+1)) y1 g Qf)):
 L28_13 x4 n6 n7 y1 g Qf:=sx_cut (rk:=rk) (loops:=lo28) (joins:=[]) (n:=100000) (by kernel_rfl) h
theorem w28_16{x4:Dat}{n6:Int}{n7:Int}{n8:Int}{y1:Dat}{g:Glob}{Qf:OGP}
 (h:InB n6 (elsOf x4).length∧InB n7 (elsOf (fld (getE (elsOf x4) n6) 2)).length∧Br (decide (n8<(↑(elsOf (fld (getE (elsOf (fld (getE (elsOf x4) n6) 2)) n7) 1)).length:Int))) (InB n6 (elsOf x4).length∧InB n6 (elsOf x4).length∧InB n7 (elsOf (fld (getE (elsOf x4) n6) 2)).length∧InB n8 (elsOf (fld (getE (elsOf (fld (getE (elsOf x4) n6) 2)) n7) 1)).length∧EvF TT 54 [x4,fld (getE (elsOf x4) n6) 1,getE (elsOf (fld (getE (elsOf (fld (getE (elsOf x4) n6) 2)) n7) 1)) n8] g (KQ Qf λv g'=>∃b,v=.d (.bool b)∧Br (!b) (InB n6 (elsOf x4).length∧Qf (.val (.tuple [.d (.int .i64 141),.d (.int .i64 (intOf (fld (getE (elsOf x4) n6) 3)))])) g') (L28_16 x4 n6 n7 (IntKind.i64.wrap (n8+1)) y1 g' Qf))) (L28_13 x4 n6 (IntKind.i64.wrap (n7+1)) y1 g Qf)):
 L28_16 x4 n6 n7 n8 y1 g Qf:=sx_cut (rk:=rk) (loops:=lo28) (joins:=[]) (n:=100000) (by kernel_rfl) h
end Go.Proofs.YtiheejdkkjfenaaGreatDoor.Pa
namespace Go.Proofs.YtiheejdkkjfenaaGreatDoor.Pa
open Go Go.Proofs.YtiheejdkkjfenaaGreatDoor.Am
def fltD(c p:Int):Dat:=.iface 111 (.agg [.int .i64 c,.int .i64 p])
theorem want_ok{b:Bool}{c p:Int}{g:Glob}{Qf:OGP}(hF:b=false→Qf (.panic (fltD c p)) g)(hT:b=true→Qf (.val (.tuple [])) g):EvF TT 109 [.bool b,.int .i64 c,.int .i64 p] g Qf:=
 w109 (Br_iff.2 ⟨λq=>hF (by simpa using q),λq=>hT (by simpa using q)⟩)
theorem Kp.at{bx:List Nat}{b:Nat}{g g':Glob}(h:Kp bx b g g'){j:Nat}{x:GBox}(hj:g.boxes[j]?=some x)(hx:j ∉ bx):g'.boxes[j]?=some x:=by
 rw[h.box j (List.getElem?_eq_some_iff.1 hj).1 hx];exact hj
structure DL(D:Dat)(l:List Dc):Prop where
 ty:HasTy TT 22 D
 abs:(elsOf D).map absDc=l
theorem DL.len{D:Dat}{l:List Dc}(h:DL D l):(elsOf D).length=l.length:=by rw[←h.abs,List.length_map]
theorem DL.get{D:Dat}{l:List Dc}(h:DL D l){i:Nat}(hi:i<l.length):∃s a b p,getE (elsOf D) (i:Int)=.agg [.str s,a,b,.int .i64 p]∧s.length≤2^40∧HasTy TT 82 a∧HasTy TT 81 b∧l[i]=⟨s,(elsOf a).map strOf,(elsOf b).map absCn,p⟩:=by
 have hi':i<(elsOf D).length:=by rw[h.len];exact hi
 obtain⟨s,a,b,p,e,hs,ha,hb⟩:=decl_ty ((h.ty.els undDecls).2 _ (List.getElem_mem hi'))
 refine⟨s,a,b,p,by rw[getE_nat hi',e],hs,ha,hb,?_⟩
 have h2:l[i]=absDc (elsOf D)[i]:=by
  have:=h.abs
  subst this
  rw[List.getElem_map]
 rw[h2,e]
 rfl
theorem sizeInt':TT.size 3=some 1:=by kernel_rfl
theorem sizeDecls:TT.size 22=some 1:=by kernel_rfl
theorem strEls{a:Dat}(h:HasTy TT 82 a):elsOf a=((elsOf a).map strOf).map .str:=by
 obtain⟨l,e,_⟩:=strs_inv h
 have:(l.map Dat.str).map strOf=l:=by rw[List.map_map];exact List.map_id'' (λ_=>rfl) l
 rw[e,this]
end Go.Proofs.YtiheejdkkjfenaaGreatDoor.Pa
namespace Go.Proofs.YtiheejdkkjfenaaGreatDoor.Pa
open Go Go.Proofs.YtiheejdkkjfenaaGreatDoor.Am
theorem free_strs'{X:Dat}{l:List Str}(h:HasTy TT 82 X)(e:elsOf X=l.map .str):∀s∈l,s.length≤2^40:=by
 obtain⟨l',e',s,_⟩:=strs_inv h
 rw[←mapStr_inj (e'.symm.trans e)]
 exact s
theorem subTake{x:Dat}{l:List Str}{j:Nat}(hx:HasTy TT 82 x)(hl:elsOf x=l.map .str)(hj:j≤l.length):HasTy TT 82 (slSub 1 x (elsOf x) 0 (j:Int))∧elsOf (slSub 1 x (elsOf x) 0 (j:Int))=(l.take j).map .str:=by
 obtain⟨l',e',s',n'⟩:=strs_inv hx
 obtain rfl:l'=l:=mapStr_inj (e'.symm.trans hl)
 unfold slSub
 split
 ·rename_i h
  have:j=l'.length:=by have:=h.2;rw[hl,List.length_map] at this;omega
  subst this
  rw[List.take_length]
  exact⟨hx,hl⟩
 ·rw[hl]
  have e:((l'.map Dat.str).take (j:Int).toNat).drop (0:Int).toNat=(l'.take j).map .str:=by
   rw[Int.toNat_natCast,show(0:Int).toNat=0 from rfl,List.drop_zero,List.map_take]
  rw[e]
  refine⟨.sl _ _ _ _ undStrs szStr ((hx.els undStrs).1.le (by rw[hl,List.length_map,List.length_map,List.length_take];omega)) λy hy=>?_,rfl⟩
  obtain⟨s,hs,rfl⟩:=List.mem_map.1 hy
  exact ty_str (s' s (List.mem_of_mem_take hs))
end Go.Proofs.YtiheejdkkjfenaaGreatDoor.Pa
namespace Go.Proofs.YtiheejdkkjfenaaGreatDoor.Pa
open Go Go.Proofs.YtiheejdkkjfenaaGreatDoor.Am
mutual
theorem patF_len(l:List Dc):∀(x:Pt) (ns r:List Str),patF l x ns=.ok r→r.length≤ns.length+szPt x
 |.mk k s n a p,ns,r,h=>by
  unfold patF at h
  simp only[szPt]
  cases q:k==2 with
  |true=>
   rw[q] at h
   cases q2:ns.contains s with
   |true=>rw[q2] at h;cases h
   |false=>
    rw[q2] at h
    have:=patFs_len l a (ns++[s]) r h
    simp only[List.length_append,List.length_cons,List.length_nil] at this
    omega
  |false=>
   rw[q] at h
   cases q2:k==4&&!(conOk l s a.length) with
   |true=>rw[q2] at h;cases h
   |false=>
    rw[q2] at h
    have:=patFs_len l a ns r h
    omega
theorem patFs_len(l:List Dc):∀(x:List Pt) (ns r:List Str),patFs l x ns=.ok r→r.length≤ns.length+szPts x
 |[],ns,r,h=>by cases h;exact Nat.le_refl _
 |x::xs,ns,r,h=>by
  unfold patFs at h
  cases q:patF l x ns with
  |bad p=>rw[q] at h;cases h
  |ok ns'=>
   rw[q] at h
   have h1:=patF_len l x ns ns' q
   have h2:=patFs_len l xs ns' r h
   simp only[szPts]
   omega
end
theorem okEx_case{s r:Str}{n la lb:Int}(h:okEx1 7 s r n la lb=true):la=lb+1:=by
 unfold okEx1 at h
 cases q:(!((7:Int)==6)&&!(r==[]))||((!((7:Int)==2)&&!(n==0))||(!((7:Int)==7)&&pos0 lb)) with
 |true=>rw[q] at h;cases h
 |false=>
  rw[q] at h
  have h:((s==[])&&(pos0 lb&&(la==lb+1)))=true:=h
  simp only[Bool.and_eq_true,beq_iff_eq] at h
  exact h.2.2
theorem okExs_mem{l:List Ex'}{i:Nat}{x:Ex'}(h:okExs l=true)(hi:l[i]?=some x):okEx x=true:=by
 induction l generalizing i with
 |nil=>simp at hi
 |cons y l ih=>
  unfold okExs at h
  rw[Bool.and_eq_true] at h
  cases i with
  |zero=>simp at hi;subst hi;exact h.1
  |succ i=>exact ih h.2 (by simpa using hi)
end Go.Proofs.YtiheejdkkjfenaaGreatDoor.Pa
namespace Go.Proofs.YtiheejdkkjfenaaGreatDoor.Pa
open Go Go.Proofs.YtiheejdkkjfenaaGreatDoor.Am
theorem rCheck_facts{P:Pg}(h:rCheckP P=true):P.ds.length≤32∧szEx P.e≤2048∧okEx P.e=true∧∀d∈P.ds,d.cs.length≤32:=by
 unfold rCheckP at h
 simp only[Bool.and_eq_true,Bool.not_eq_true'] at h
 obtain⟨h1,h2,h3,_,h5⟩:=h
 refine⟨?_,?_,h5,λd hd=>?_⟩
 ·have:¬(32:Int)<P.ds.length:=by simpa[gtI] using h1
  omega
 ·have:¬(2048:Int)<upto 0 (szEx P.e):=by simpa[gtI] using h2
  unfold upto at this
  repeat' split at this
  all_goals omega
 ·have:=(List.all_eq_true.1 h3) d hd
  rw[rDc_eq] at this
  simp only[Bool.and_eq_true,Bool.not_eq_true'] at this
  have:=this.2.2.1
  have:¬(32:Int)<d.cs.length:=by simpa[gtI] using this
  omega
theorem allDc_len(P:Pg):(allDc P).length=3+P.ds.length:=by
 show(baseL.map absDc++P.ds).length=_
 rw[List.length_append]
 rfl
end Go.Proofs.YtiheejdkkjfenaaGreatDoor.Pa
