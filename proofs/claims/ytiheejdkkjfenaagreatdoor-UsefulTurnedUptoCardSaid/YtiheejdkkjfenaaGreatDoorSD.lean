/- Scope: which names are wrong first, told plainly. What functions of the program do, printed by wip/tools/sx/sx.py. Scope: the program's look at declared types. Scope: the program's look at all declared types. Scope: the program's look at expressions; its Check. Scope: the program's Check. -/
import Derived.Test.YtiheejdkkjfenaaGreatDoorSC
import Derived.Test.YtiheejdkkjfenaaGreatDoorRI
import Derived.Test.YtiheejdkkjfenaaGreatDoorSA
set_option linter.all false
set_option autoImplicit false
set_option maxRecDepth 100000
namespace Go.Proofs.YtiheejdkkjfenaaGreatDoor.Pa
open Go Go.Proofs.YtiheejdkkjfenaaGreatDoor.Am
def cnFs(s:Str):List Cn→Option Nat
 |[]=>none
 |c::l=>bif c.s==s then some c.fs.length else cnFs s l
def dcFs(s:Str):List Dc→Option Nat
 |[]=>none
 |d::l=>match cnFs s d.cs with
  |some n=>some n
  |none=>dcFs s l
theorem findCn_spec(s:Str):∀(l:List Cn) (i:Int),(∃(k:Nat) (c:Cn),findCn s l i=some (i+k)∧l[k]?=some c∧cnFs s l=some c.fs.length)∨(findCn s l i=none∧cnFs s l=none)
 |[],i=>.inr ⟨rfl,rfl⟩
 |c::l,i=>by
  cases h:c.s==s with
  |true=>exact .inl ⟨0,c,by simp[findCn,h],rfl,by simp[cnFs,h]⟩
  |false=>
   rcases findCn_spec s l (i+1) with ⟨k,c',h1,h2,h3⟩|⟨h1,h2⟩
   ·exact .inl ⟨k+1,c',by simp only[findCn,h,cond_false,h1];congr 1;omega,by simpa using h2,by simp[cnFs,h,h3]⟩
   ·exact .inr ⟨by simp[findCn,h,h1],by simp[cnFs,h,h2]⟩
theorem findDc_spec(s:Str):∀(l:List Dc) (i:Int),(∃(k j:Nat) (d:Dc) (c:Cn),findDc s l i=(i+k,(j:Int),true)∧l[k]?=some d∧d.cs[j]?=some c∧dcFs s l=some c.fs.length)∨(findDc s l i=(0,0,false)∧dcFs s l=none)
 |[],i=>.inr ⟨rfl,rfl⟩
 |d::l,i=>by
  rcases findCn_spec s d.cs 0 with ⟨k,c,h1,h2,h3⟩|⟨h1,h2⟩
  ·exact .inl ⟨0,k,d,c,by simp[findDc,h1],rfl,h2,by simp[dcFs,h3]⟩
  ·rcases findDc_spec s l (i+1) with ⟨k,j,d',c',q1,q2,q3,q4⟩|⟨q1,q2⟩
   ·exact .inl ⟨k+1,j,d',c',by simp only[findDc,h1,q1];congr 1;omega,by simpa using q2,q3,by simp[dcFs,h2,q4]⟩
   ·exact .inr ⟨by simp[findDc,h1,q1],by simp[dcFs,h2,q2]⟩
inductive PR where
 |bad (p:Int)
 |ok (l:List Str)
end Go.Proofs.YtiheejdkkjfenaaGreatDoor.Pa
namespace Go.Proofs.YtiheejdkkjfenaaGreatDoor.Pa
open Go Go.Proofs.YtiheejdkkjfenaaGreatDoor.Am
def lo109:List CutI:=[]
theorem w109{b0:Bool}{n1:Int}{n2:Int}{g:Glob}{Qf:OGP}
 (h:Br (!b0) (Qf (.panic (.iface 111 (.agg [.int .i64 (intOf (.int .i64 n1)),.int .i64 (intOf (.int .i64 n2))]))) g) (Qf (.val (.tuple [])) g)):
 EvF TT 109 [.bool b0,.int .i64 n1,.int .i64 n2] g Qf:=
 sx_fun (rk:=rk) (fn:=Tryz.f109) (loops:=lo109) (joins:=[]) (n:=100000) (args:=[(4,.bool b0),(33,.int .i64 n1),(3,.int .i64 n2)]) rfl rfl rfl rfl ⟨tyBool rfl,tyInt rfl,tyInt rfl,trivial⟩ (by kernel_rfl) h
end Go.Proofs.YtiheejdkkjfenaaGreatDoor.Pa
namespace Go.Proofs.YtiheejdkkjfenaaGreatDoor.Pa
open Go Go.Proofs.YtiheejdkkjfenaaGreatDoor.Am
def fltD(c p:Int):Dat:=.iface 111 (.agg [.int .i64 c,.int .i64 p])
theorem want_ok{b:Bool}{c p:Int}{g:Glob}{Qf:OGP}(hF:b=false→Qf (.panic (fltD c p)) g)(hT:b=true→Qf (.val (.tuple [])) g):EvF TT 109 [.bool b,.int .i64 c,.int .i64 p] g Qf:=
 w109 (Br_iff.2 ⟨λq=>hF (by simpa using q),λq=>hT (by simpa using q)⟩)
theorem Kp.at{bx:List Nat}{b:Nat}{g g':Glob}(h:Kp bx b g g'){j:Nat}{x:GBox}(hj:g.boxes[j]?=some x)(hx:j ∉ bx):g'.boxes[j]?=some x:=by
 rw[h.box j (List.getElem?_eq_some_iff.1 hj).1 hx];exact hj
structure DL(D:Dat)(l:List Dc):Prop where
 ty:HasTy TT 22 D
 abs:(elsOf D).map absDc=l
theorem DL.len{D:Dat}{l:List Dc}(h:DL D l):(elsOf D).length=l.length:=by rw[←h.abs,List.length_map]
theorem DL.get{D:Dat}{l:List Dc}(h:DL D l){i:Nat}(hi:i<l.length):∃s a b p,getE (elsOf D) (i:Int)=.agg [.str s,a,b,.int .i64 p]∧s.length≤2^40∧HasTy TT 82 a∧HasTy TT 81 b∧l[i]=⟨s,(elsOf a).map strOf,(elsOf b).map absCn,p⟩:=by
 have hi':i<(elsOf D).length:=by rw[h.len];exact hi
 obtain⟨s,a,b,p,e,hs,ha,hb⟩:=decl_ty ((h.ty.els undDecls).2 _ (List.getElem_mem hi'))
 refine⟨s,a,b,p,by rw[getE_nat hi',e],hs,ha,hb,?_⟩
 have h2:l[i]=absDc (elsOf D)[i]:=by
  have:=h.abs
  subst this
  rw[List.getElem_map]
 rw[h2,e]
 rfl
end Go.Proofs.YtiheejdkkjfenaaGreatDoor.Pa
namespace Go.Proofs.YtiheejdkkjfenaaGreatDoor.Pa
open Go Go.Proofs.YtiheejdkkjfenaaGreatDoor.Am
end Go.Proofs.YtiheejdkkjfenaaGreatDoor.Pa
namespace Go.Proofs.YtiheejdkkjfenaaGreatDoor.Pa
open Go Go.Proofs.YtiheejdkkjfenaaGreatDoor.Am
end Go.Proofs.YtiheejdkkjfenaaGreatDoor.Pa
namespace Go.Proofs.YtiheejdkkjfenaaGreatDoor.Pa
open Go Go.Proofs.YtiheejdkkjfenaaGreatDoor.Am
end Go.Proofs.YtiheejdkkjfenaaGreatDoor.Pa
