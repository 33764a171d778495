/- What a list of tokens is read as: a grammar, by fuel. Towards ParseReads. The grammar of expressions, declarations, programs: what is left is shorter; enough fuel. -/
import Derived.Test.YtmlghadphdpbjaaGreatDoorRI
set_option linter.all false
set_option autoImplicit false
set_option maxRecDepth 100000
namespace Go.Proofs.YtmlghadphdpbjaaGreatDoor.Pa
open Go Go.Proofs.YtmlghadphdpbjaaGreatDoor.Am
abbrev Pk:=Tk×Int
inductive Res(α:Type) where
 |ok (v:α) (r:List Pk)
 |bad (p:Int)
 |oof
def Res.bind{α β:Type}:Res α→(α→List Pk→Res β)→Res β
 |.ok v r,f=>f v r
 |.bad p,_=>.bad p
 |.oof,_=>.oof
def plK(en:Int):List Pk→Int
 |[]=>en
 |t::_=>t.2
def kdK:List Pk→Int
 |[]=>0
 |t::_=>t.1.1
def txK:List Pk→Str
 |[]=>[]
 |t::_=>t.1.2.1
def nmK:List Pk→Int
 |[]=>0
 |t::_=>t.1.2.2
def isK'(k:Int)(s:Str)(r:List Pk):Bool:=kdK r==k&&txK r==s
variable(en:Int)
def need(k:Int)(s:Str)(r:List Pk):Res Unit:=if isK' k s r then .ok () r.tail else .bad (plK en r)
def word1(k:Int)(r:List Pk):Res Str:=if kdK r==k then .ok (txK r) r.tail else .bad (plK en r)
def sArrow:Str:=[45,62]
def sOpen:Str:=[40]
def sClose:Str:=[41]
def sBar:Str:=[124]
def sSemi:Str:=[59]
def sEq:Str:=[61]
def sAny:Str:=[95]
def kFun:Str:=[102,117,110]
def kLet:Str:=[108,101,116]
def kRec:Str:=[114,101,99]
def kIf:Str:=[105,102]
def kThen:Str:=[116,104,101,110]
def kElse:Str:=[101,108,115,101]
def kCase:Str:=[99,97,115,101]
def kOf:Str:=[111,102]
def kEnd:Str:=[101,110,100]
def kIn:Str:=[105,110]
def kPrint:Str:=[112,114,105,110,116]
def kType:Str:=[116,121,112,101]
def kInt:Str:=[105,110,116]
def nUnit:Str:=[85,110,105,116]
def nTrue:Str:=[84,114,117,101]
def nFalse:Str:=[70,97,108,115,101]
def tyNext(r:List Pk):Bool:=kdK r==1||kdK r==3||isK' 6 sOpen r
def lowTy(s:Str):Ty:=if s==kInt then .mk 1 [] 0 [] else .mk 4 s 0 []
def tyKind:Ty→Int
 |.mk k _ _ _=>k
def tyAdd:Ty→Ty→Ty
 |.mk k s n a,t=>.mk k s n (a++[t])
mutual
def gTyp:Nat→List Pk→Res Ty
 |0,_=>.oof
 |n+1,r=>(gTyapp n r).bind λt r=>if isK' 6 sArrow r then(gTyp n r.tail).bind λu r=>.ok (.mk 3 [] 0 [t,u]) r else .ok t r
def gTyapp:Nat→List Pk→Res Ty
 |0,_=>.oof
 |n+1,r=>if kdK r==1 then gTyArgs n (lowTy (txK r)) r.tail else gTyatom n r
def gTyArgs:Nat→Ty→List Pk→Res Ty
 |0,_,_=>.oof
 |n+1,t,r=>if tyNext r then(if tyKind t==4 then(gTyatom n r).bind λu r=>gTyArgs n (tyAdd t u) r else .bad (plK en r)) else .ok t r
def gTyatom:Nat→List Pk→Res Ty
 |0,_=>.oof
 |n+1,r=>
  if kdK r==1 then .ok (lowTy (txK r)) r.tail
  else if kdK r==3 then .ok (.mk 2 (txK r) 0 []) r.tail
  else(need en 6 sOpen r).bind λ_ r=>(gTyp n r).bind λt r=>(need en 6 sClose r).bind λ_ r=>.ok t r
end
def atNext(r:List Pk):Bool:=kdK r==1||kdK r==4||kdK r==2||isK' 6 sOpen r
def ptAdd:Pt→Pt→Pt
 |.mk k s n a p,t=>.mk k s n (a++[t]) p
mutual
def gPat:Nat→List Pk→Res Pt
 |0,_=>.oof
 |n+1,r=>if kdK r==2 then gPatArgs n (.mk 4 (txK r) (nmK r) [] (plK en r)) r.tail else gPatom n r
def gPatArgs:Nat→Pt→List Pk→Res Pt
 |0,_,_=>.oof
 |n+1,t,r=>if atNext r||isK' 6 sAny r then(gPatom n r).bind λu r=>gPatArgs n (ptAdd t u) r else .ok t r
def gPatom:Nat→List Pk→Res Pt
 |0,_=>.oof
 |n+1,r=>
  if kdK r==1 then .ok (.mk 2 (txK r) (nmK r) [] (plK en r)) r.tail
  else if isK' 6 sAny r then .ok (.mk 1 [] (nmK r) [] (plK en r)) r.tail
  else if kdK r==4 then .ok (.mk 3 (txK r) (nmK r) [] (plK en r)) r.tail
  else if kdK r==2 then .ok (.mk 4 (txK r) (nmK r) [] (plK en r)) r.tail
  else(need en 6 sOpen r).bind λ_ r=>(gPat n r).bind λt r=>(need en 6 sClose r).bind λ_ r=>.ok t r
end
def exAdd:Ex'→Ex'→Ex'
 |.mk k s r n a b p,t=>.mk k s r n (a++[t]) b p
def exPat:Ex'→Pt→Ex'
 |.mk k s r n a b p,t=>.mk k s r n a (b++[t]) p
def exAt:Ex'→Int
 |.mk _ _ _ _ _ _ p=>p
def sgns:Nat→List Str
 |0=>[[60],[61,61]]
 |1=>[[43],[45]]
 |_=>[[42],[47],[37]]
def sgNext(l:Nat)(r:List Pk):Bool:=kdK r==6&&(sgns l).any (λs=>s==txK r)
def con0(s:Str)(p:Int):Pt:=.mk 4 s 0 [] p
mutual
def gEx:Nat→List Pk→Res Ex'
 |0,_=>.oof
 |n+1,r=>
  let p:=plK en r
  if isK' 5 kFun r then(word1 en 1 r.tail).bind λx r=>(need en 6 sArrow r).bind λ_ r=>(gEx n r).bind λe r=>.ok (.mk 3 x [] 0 [e] [] p) r
  else if isK' 5 kLet r then
   (if isK' 5 kRec r.tail then(word1 en 1 r.tail.tail).bind λx r=>(word1 en 1 r).bind λy r=>gLet n (.mk 6 x y 0 [] [] p) r
    else(word1 en 1 r.tail).bind λx r=>gLet n (.mk 5 x [] 0 [] [] p) r)
  else if isK' 5 kIf r then(gEx n r.tail).bind λa r=>(need en 5 kThen r).bind λ_ r=>(gEx n r).bind λb r=>(need en 5 kElse r).bind λ_ r=>(gEx n r).bind λc r=>
   .ok (.mk 7 [] [] 0 [a,b,c] [con0 nTrue p,con0 nFalse p] p) r
  else if isK' 5 kCase r then(gEx n r.tail).bind λa r=>(need en 5 kOf r).bind λ_ r=>gBr n (.mk 7 [] [] 0 [a] [] p) r
  else(gLev n 0 r).bind λa r=>if isK' 6 sSemi r then(gEx n r.tail).bind λb r=>.ok (.mk 7 [] [] 0 [a,b] [con0 nUnit (exAt a)] (exAt a)) r else .ok a r
def gLet:Nat→Ex'→List Pk→Res Ex'
 |0,_,_=>.oof
 |n+1,e,r=>(need en 6 sEq r).bind λ_ r=>(gEx n r).bind λa r=>(need en 5 kIn r).bind λ_ r=>(gEx n r).bind λb r=>.ok (exAdd (exAdd e a) b) r
def gBr:Nat→Ex'→List Pk→Res Ex'
 |0,_,_=>.oof
 |n+1,e,r=>(gPat en n r).bind λx r=>(need en 6 sArrow r).bind λ_ r=>(gEx n r).bind λa r=>
   if isK' 6 sBar r then gBr n (exAdd (exPat e x) a) r.tail else(need en 5 kEnd r).bind λ_ r=>.ok (exAdd (exPat e x) a) r
def gLev:Nat→Nat→List Pk→Res Ex'
 |0,_,_=>.oof
 |n+1,l,r=>if l==3 then gApp n r else(gLev n (l+1) r).bind λa r=>gOps n l a r
def gOps:Nat→Nat→Ex'→List Pk→Res Ex'
 |0,_,_,_=>.oof
 |n+1,l,a,r=>if sgNext l r then(gLev n (l+1) r.tail).bind λb r'=>
   (if l==0 then .ok (.mk 9 (txK r) [] 0 [a,b] [] (exAt a)) r' else gOps n l (.mk 9 (txK r) [] 0 [a,b] [] (exAt a)) r') else .ok a r
def gApp:Nat→List Pk→Res Ex'
 |0,_=>.oof
 |n+1,r=>
  if kdK r==2 then(gAtom n r).bind λe r=>gConArgs n e r
  else if isK' 5 kPrint r then(gAtom n r.tail).bind λe r'=>.ok (.mk 10 [] [] 0 [e] [] (plK en r)) r'
  else(gAtom n r).bind λe r=>gAppArgs n e r
def gConArgs:Nat→Ex'→List Pk→Res Ex'
 |0,_,_=>.oof
 |n+1,e,r=>if atNext r then(gAtom n r).bind λa r=>gConArgs n (exAdd e a) r else .ok e r
def gAppArgs:Nat→Ex'→List Pk→Res Ex'
 |0,_,_=>.oof
 |n+1,e,r=>if atNext r then(gAtom n r).bind λa r=>gAppArgs n (.mk 4 [] [] 0 [e,a] [] (exAt e)) r else .ok e r
def gAtom:Nat→List Pk→Res Ex'
 |0,_=>.oof
 |n+1,r=>
  if kdK r==1 then .ok (.mk 1 (txK r) [] (nmK r) [] [] (plK en r)) r.tail
  else if kdK r==4 then .ok (.mk 2 (txK r) [] (nmK r) [] [] (plK en r)) r.tail
  else if kdK r==2 then .ok (.mk 8 (txK r) [] (nmK r) [] [] (plK en r)) r.tail
  else(need en 6 sOpen r).bind λ_ r=>(gEx n r).bind λt r=>(need en 6 sClose r).bind λ_ r=>.ok t r
end
def gParams:List Pk→List Str×List Pk
 |[]=>([],[])
 |t::r=>if t.1.1==3 then(t.1.2.1::(gParams r).1,(gParams r).2) else([],t::r)
def gFields:Nat→List Ty→List Pk→Res (List Ty)
 |0,_,_=>.oof
 |n+1,l,r=>if tyNext r then(gTyatom en n r).bind λu r=>gFields n (l++[u]) r else .ok l r
def gCons:Nat→List Cn→List Pk→Res (List Cn)
 |0,_,_=>.oof
 |n+1,l,r=>(word1 en 2 r).bind λs r=>(gFields en n [] r).bind λa r=>if isK' 6 sBar r then gCons n (l++[⟨s,a⟩]) r.tail else .ok (l++[⟨s,a⟩]) r
def gDecl(n:Nat)(r:List Pk):Res Dc:=
 (need en 5 kType r).bind λ_ r1=>(word1 en 1 r1).bind λs r2=>(need en 6 sEq (gParams r2).2).bind λ_ r3=>(gCons en n [] r3).bind λcs r4=>(need en 6 sSemi r4).bind λ_ r5=>.ok ⟨s,(gParams r2).1,cs,plK en r⟩ r5
def gProg:Nat→List Dc→List Pk→Res Pg
 |0,_,_=>.oof
 |n+1,l,r=>if isK' 5 kType r then(gDecl en n r).bind λd r=>gProg n (l++[d]) r else(gEx en n r).bind λe r=>if r.isEmpty then .ok ⟨l,e⟩ r else .bad (plK en r)
variable{en:Int}{α β:Type}{r r1 r':List Pk}
theorem bind_ok{res:Res α}{f:α→List Pk→Res β}{v:β}(h:res.bind f=.ok v r'):∃a r1,res=.ok a r1∧f a r1=.ok v r':=by
 cases res with
 |ok a r1=>exact⟨a,r1,rfl,h⟩
 |bad p=>cases h
 |oof=>cases h
theorem tail_lt{k:Int}(hk:k≠0)(h:(kdK r==k)=true):r.tail.length<r.length:=by
 cases r with
 |nil=>exact absurd (by simpa[kdK] using(beq_iff_eq.1 h).symm) hk
 |cons t r=>simp
theorem tail_lt'{k:Int}{s:Str}(hk:k≠0)(h:isK' k s r=true):r.tail.length<r.length:=by
 unfold isK' at h
 rw[Bool.and_eq_true] at h
 exact tail_lt hk h.1
theorem need_ok{k:Int}{s:Str}{u:Unit}(hk:k≠0)(h:need en k s r=.ok u r'):r'.length<r.length:=by
 unfold need at h
 split at h
 ·rename_i q;cases h;exact tail_lt' hk q
 ·cases h
theorem word_ok{k:Int}{s:Str}(hk:k≠0)(h:word1 en k r=.ok s r'):r'.length<r.length:=by
 unfold word1 at h
 split at h
 ·rename_i q;cases h;exact tail_lt hk q
 ·cases h
theorem bind_ne{res:Res α}{f:α→List Pk→Res β}(h:res≠.oof)(k:∀a r1,res=.ok a r1→f a r1≠.oof):res.bind f≠.oof:=by
 cases res with
 |ok a r1=>exact k a r1 rfl
 |bad p=>simp[Res.bind]
 |oof=>exact absurd rfl h
theorem need_ne{k:Int}{s:Str}:need en k s r≠.oof:=by unfold need;split<;>simp
theorem word_ne{k:Int}:word1 en k r≠.oof:=by unfold word1;split<;>simp
theorem gTy_len:∀n:Nat,(∀(r:List Pk) v r',gTyp en n r=.ok v r'→r'.length<r.length)∧(∀(r:List Pk) v r',gTyapp en n r=.ok v r'→r'.length<r.length)∧
 (∀(t:Ty) (r:List Pk) v r',gTyArgs en n t r=.ok v r'→r'.length≤r.length)∧(∀(r:List Pk) v r',gTyatom en n r=.ok v r'→r'.length<r.length)
 |0=>⟨λ_ _ _ h=>by simp[gTyp] at h,λ_ _ _ h=>by simp[gTyapp] at h,λ_ _ _ _ h=>by simp[gTyArgs] at h,λ_ _ _ h=>by simp[gTyatom] at h⟩
 |n+1=>by
  obtain⟨i1,i2,i3,i4⟩:=gTy_len n
  refine⟨λr v r' h=>?_,λr v r' h=>?_,λt r v r' h=>?_,λr v r' h=>?_⟩
  ·rw[gTyp] at h
   obtain⟨t,r1,h1,h2⟩:=bind_ok h
   have l1:=i2 _ _ _ h1
   split at h2
   ·rename_i q
    obtain⟨u,r2,h3,h4⟩:=bind_ok h2
    have l2:=i1 _ _ _ h3
    have l3:=tail_lt' (by decide) q
    cases h4
    omega
   ·cases h2;exact l1
  ·rw[gTyapp] at h
   split at h
   ·rename_i q
    have l1:=tail_lt (by decide) q
    have l2:=i3 _ _ _ _ h
    omega
   ·exact i4 _ _ _ h
  ·rw[gTyArgs] at h
   split at h
   ·split at h
    ·obtain⟨u,r1,h1,h2⟩:=bind_ok h
     have l1:=i4 _ _ _ h1
     have l2:=i3 _ _ _ _ h2
     omega
    ·cases h
   ·cases h;exact Nat.le_refl _
  ·rw[gTyatom] at h
   split at h
   ·rename_i q;cases h;exact tail_lt (by decide) q
   ·split at h
    ·rename_i q;cases h;exact tail_lt (by decide) q
    ·obtain⟨_,r1,h1,h2⟩:=bind_ok h
     obtain⟨t,r2,h3,h4⟩:=bind_ok h2
     obtain⟨_,r3,h5,h6⟩:=bind_ok h4
     have l1:=need_ok (by decide) h1
     have l2:=i1 _ _ _ h3
     have l3:=need_ok (by decide) h5
     cases h6
     omega
theorem gPt_len:∀n:Nat,(∀(r:List Pk) v r',gPat en n r=.ok v r'→r'.length<r.length)∧
 (∀(t:Pt) (r:List Pk) v r',gPatArgs en n t r=.ok v r'→r'.length≤r.length)∧(∀(r:List Pk) v r',gPatom en n r=.ok v r'→r'.length<r.length)
 |0=>⟨λ_ _ _ h=>by simp[gPat] at h,λ_ _ _ _ h=>by simp[gPatArgs] at h,λ_ _ _ h=>by simp[gPatom] at h⟩
 |n+1=>by
  obtain⟨i1,i3,i4⟩:=gPt_len n
  refine⟨λr v r' h=>?_,λt r v r' h=>?_,λr v r' h=>?_⟩
  ·rw[gPat] at h
   split at h
   ·rename_i q
    have l1:=tail_lt (by decide) q
    have l2:=i3 _ _ _ _ h
    omega
   ·exact i4 _ _ _ h
  ·rw[gPatArgs] at h
   split at h
   ·obtain⟨u,r1,h1,h2⟩:=bind_ok h
    have l1:=i4 _ _ _ h1
    have l2:=i3 _ _ _ _ h2
    omega
   ·cases h;exact Nat.le_refl _
  ·rw[gPatom] at h
   split at h
   ·rename_i q;cases h;exact tail_lt (by decide) q
   ·split at h
    ·rename_i q;cases h;exact tail_lt' (by decide) q
    ·split at h
     ·rename_i q;cases h;exact tail_lt (by decide) q
     ·split at h
      ·rename_i q;cases h;exact tail_lt (by decide) q
      ·obtain⟨_,r1,h1,h2⟩:=bind_ok h
       obtain⟨t,r2,h3,h4⟩:=bind_ok h2
       obtain⟨_,r3,h5,h6⟩:=bind_ok h4
       have l1:=need_ok (by decide) h1
       have l2:=i1 _ _ _ h3
       have l3:=need_ok (by decide) h5
       cases h6
       omega
theorem gTy_ne:∀n:Nat,(∀r:List Pk,4*r.length+3≤n→gTyp en n r≠.oof)∧(∀r:List Pk,4*r.length+2≤n→gTyapp en n r≠.oof)∧
 (∀(t:Ty) (r:List Pk),4*r.length+2≤n→gTyArgs en n t r≠.oof)∧(∀r:List Pk,4*r.length+1≤n→gTyatom en n r≠.oof)
 |0=>⟨λ_ h=>by omega,λ_ h=>by omega,λ_ _ h=>by omega,λ_ h=>by omega⟩
 |n+1=>by
  obtain⟨i1,i2,i3,i4⟩:=gTy_ne n
  obtain⟨j1,j2,j3,j4⟩:=gTy_len (en:=en) n
  refine⟨λr h=>?_,λr h=>?_,λt r h=>?_,λr h=>?_⟩
  ·rw[gTyp]
   refine bind_ne (i2 _ (by omega)) λt r1 h1=>?_
   have l1:=j2 _ _ _ h1
   split
   ·rename_i q
    have l3:=tail_lt' (by decide) q
    exact bind_ne (i1 _ (by omega)) λ_ _ _=>by simp
   ·simp
  ·rw[gTyapp]
   split
   ·rename_i q
    have l1:=tail_lt (by decide) q
    exact i3 _ _ (by omega)
   ·exact i4 _ (by omega)
  ·rw[gTyArgs]
   split
   ·split
    ·refine bind_ne (i4 _ (by omega)) λu r1 h1=>?_
     have l1:=j4 _ _ _ h1
     exact i3 _ _ (by omega)
    ·simp
   ·simp
  ·rw[gTyatom]
   split
   ·simp
   ·split
    ·simp
    ·refine bind_ne need_ne λ_ r1 h1=>?_
     have l1:=need_ok (by decide) h1
     exact bind_ne (i1 _ (by omega)) λ_ _ _=>bind_ne need_ne λ_ _ _=>by simp
theorem gPt_ne:∀n:Nat,(∀r:List Pk,4*r.length+2≤n→gPat en n r≠.oof)∧
 (∀(t:Pt) (r:List Pk),4*r.length+2≤n→gPatArgs en n t r≠.oof)∧(∀r:List Pk,4*r.length+1≤n→gPatom en n r≠.oof)
 |0=>⟨λ_ h=>by omega,λ_ _ h=>by omega,λ_ h=>by omega⟩
 |n+1=>by
  obtain⟨i1,i3,i4⟩:=gPt_ne n
  obtain⟨j1,j3,j4⟩:=gPt_len (en:=en) n
  refine⟨λr h=>?_,λt r h=>?_,λr h=>?_⟩
  ·rw[gPat]
   split
   ·rename_i q
    have l1:=tail_lt (by decide) q
    exact i3 _ _ (by omega)
   ·exact i4 _ (by omega)
  ·rw[gPatArgs]
   split
   ·refine bind_ne (i4 _ (by omega)) λu r1 h1=>?_
    have l1:=j4 _ _ _ h1
    exact i3 _ _ (by omega)
   ·simp
  ·rw[gPatom]
   split
   ·simp
   ·split
    ·simp
    ·split
     ·simp
     ·split
      ·simp
      ·refine bind_ne need_ne λ_ r1 h1=>?_
       have l1:=need_ok (by decide) h1
       exact bind_ne (i1 _ (by omega)) λ_ _ _=>bind_ne need_ne λ_ _ _=>by simp
end Go.Proofs.YtmlghadphdpbjaaGreatDoor.Pa
namespace Go.Proofs.YtmlghadphdpbjaaGreatDoor.Pa
open Go Go.Proofs.YtmlghadphdpbjaaGreatDoor.Am
variable{en:Int}{α β:Type}{r r1 r':List Pk}
structure ExLen(en:Int)(n:Nat):Prop where
 ex:∀{r v r'},gEx en n r=.ok v r'→r'.length<r.length
 lt:∀{e r v r'},gLet en n e r=.ok v r'→r'.length<r.length
 br:∀{e r v r'},gBr en n e r=.ok v r'→r'.length<r.length
 lev:∀{l r v r'},gLev en n l r=.ok v r'→r'.length<r.length
 ops:∀{l e r v r'},gOps en n l e r=.ok v r'→r'.length≤r.length
 app:∀{r v r'},gApp en n r=.ok v r'→r'.length<r.length
 con:∀{e r v r'},gConArgs en n e r=.ok v r'→r'.length≤r.length
 args:∀{e r v r'},gAppArgs en n e r=.ok v r'→r'.length≤r.length
 atom:∀{r v r'},gAtom en n r=.ok v r'→r'.length<r.length
theorem sg_lt{l:Nat}(h:sgNext l r=true):r.tail.length<r.length:=by
 unfold sgNext at h
 rw[Bool.and_eq_true] at h
 exact tail_lt (by decide) h.1
theorem exLen:∀n,ExLen en n
 |0=>by constructor<;>intros<;>rename_i h<;>simp[gEx,gLet,gBr,gLev,gOps,gApp,gConArgs,gAppArgs,gAtom] at h
 |n+1=>by
  have I:=exLen n
  have P:=(gPt_len (en:=en) n).1
  constructor
  ·intro r v r' h
   rw[gEx] at h
   split at h
   ·rename_i q
    obtain⟨_,r1,h1,h2⟩:=bind_ok h
    obtain⟨_,r2,h3,h4⟩:=bind_ok h2
    obtain⟨_,r3,h5,h6⟩:=bind_ok h4
    have l0:=tail_lt' (by decide) q
    have l1:=word_ok (by decide) h1
    have l2:=need_ok (by decide) h3
    have l3:=I.ex h5
    cases h6
    omega
   ·split at h
    ·rename_i q
     have l0:=tail_lt' (by decide) q
     split at h
     ·rename_i q1
      have l1:=tail_lt' (by decide) q1
      obtain⟨_,r1,h1,h2⟩:=bind_ok h
      obtain⟨_,r2,h3,h4⟩:=bind_ok h2
      have l2:=word_ok (by decide) h1
      have l3:=word_ok (by decide) h3
      have l4:=I.lt h4
      omega
     ·obtain⟨_,r1,h1,h2⟩:=bind_ok h
      have l2:=word_ok (by decide) h1
      have l4:=I.lt h2
      omega
    ·split at h
     ·rename_i q
      have l0:=tail_lt' (by decide) q
      obtain⟨_,r1,h1,h2⟩:=bind_ok h
      obtain⟨_,r2,h3,h4⟩:=bind_ok h2
      obtain⟨_,r3,h5,h6⟩:=bind_ok h4
      obtain⟨_,r4,h7,h8⟩:=bind_ok h6
      obtain⟨_,r5,h9,h10⟩:=bind_ok h8
      have l1:=I.ex h1
      have l2:=need_ok (by decide) h3
      have l3:=I.ex h5
      have l4:=need_ok (by decide) h7
      have l5:=I.ex h9
      cases h10
      omega
     ·split at h
      ·rename_i q
       have l0:=tail_lt' (by decide) q
       obtain⟨_,r1,h1,h2⟩:=bind_ok h
       obtain⟨_,r2,h3,h4⟩:=bind_ok h2
       have l1:=I.ex h1
       have l2:=need_ok (by decide) h3
       have l3:=I.br h4
       omega
      ·obtain⟨_,r1,h1,h2⟩:=bind_ok h
       have l1:=I.lev h1
       split at h2
       ·rename_i q
        have l0:=tail_lt' (by decide) q
        obtain⟨_,r2,h3,h4⟩:=bind_ok h2
        have l2:=I.ex h3
        cases h4
        omega
       ·cases h2;exact l1
  ·intro e r v r' h
   rw[gLet] at h
   obtain⟨_,r1,h1,h2⟩:=bind_ok h
   obtain⟨_,r2,h3,h4⟩:=bind_ok h2
   obtain⟨_,r3,h5,h6⟩:=bind_ok h4
   obtain⟨_,r4,h7,h8⟩:=bind_ok h6
   have l1:=need_ok (by decide) h1
   have l2:=I.ex h3
   have l3:=need_ok (by decide) h5
   have l4:=I.ex h7
   cases h8
   omega
  ·intro e r v r' h
   rw[gBr] at h
   obtain⟨_,r1,h1,h2⟩:=bind_ok h
   obtain⟨_,r2,h3,h4⟩:=bind_ok h2
   obtain⟨_,r3,h5,h6⟩:=bind_ok h4
   have l1:=P _ _ _ h1
   have l2:=need_ok (by decide) h3
   have l3:=I.ex h5
   split at h6
   ·rename_i q
    have l0:=tail_lt' (by decide) q
    have l4:=I.br h6
    omega
   ·obtain⟨_,r4,h7,h8⟩:=bind_ok h6
    have l4:=need_ok (by decide) h7
    cases h8
    omega
  ·intro l r v r' h
   rw[gLev] at h
   split at h
   ·exact I.app h
   ·obtain⟨_,r1,h1,h2⟩:=bind_ok h
    have l1:=I.lev h1
    have l2:=I.ops h2
    omega
  ·intro l e r v r' h
   rw[gOps] at h
   split at h
   ·rename_i q
    have l0:=sg_lt q
    obtain⟨_,r1,h1,h2⟩:=bind_ok h
    have l1:=I.lev h1
    split at h2
    ·cases h2;omega
    ·have l2:=I.ops h2;omega
   ·cases h;exact Nat.le_refl _
  ·intro r v r' h
   rw[gApp] at h
   split at h
   ·obtain⟨_,r1,h1,h2⟩:=bind_ok h
    have l1:=I.atom h1
    have l2:=I.con h2
    omega
   ·split at h
    ·rename_i q
     have l0:=tail_lt' (by decide) q
     obtain⟨_,r1,h1,h2⟩:=bind_ok h
     have l1:=I.atom h1
     cases h2
     omega
    ·obtain⟨_,r1,h1,h2⟩:=bind_ok h
     have l1:=I.atom h1
     have l2:=I.args h2
     omega
  ·intro e r v r' h
   rw[gConArgs] at h
   split at h
   ·obtain⟨_,r1,h1,h2⟩:=bind_ok h
    have l1:=I.atom h1
    have l2:=I.con h2
    omega
   ·cases h;exact Nat.le_refl _
  ·intro e r v r' h
   rw[gAppArgs] at h
   split at h
   ·obtain⟨_,r1,h1,h2⟩:=bind_ok h
    have l1:=I.atom h1
    have l2:=I.args h2
    omega
   ·cases h;exact Nat.le_refl _
  ·intro r v r' h
   rw[gAtom] at h
   split at h
   ·rename_i q;cases h;exact tail_lt (by decide) q
   ·split at h
    ·rename_i q;cases h;exact tail_lt (by decide) q
    ·split at h
     ·rename_i q;cases h;exact tail_lt (by decide) q
     ·obtain⟨_,r1,h1,h2⟩:=bind_ok h
      obtain⟨_,r2,h3,h4⟩:=bind_ok h2
      obtain⟨_,r3,h5,h6⟩:=bind_ok h4
      have l1:=need_ok (by decide) h1
      have l2:=I.ex h3
      have l3:=need_ok (by decide) h5
      cases h6
      omega
structure ExNe(en:Int)(n:Nat):Prop where
 ex:∀{r:List Pk},16*r.length+8≤n→gEx en n r≠.oof
 lt:∀{e} {r:List Pk},16*r.length+1≤n→gLet en n e r≠.oof
 br:∀{e} {r:List Pk},16*r.length+3≤n→gBr en n e r≠.oof
 lev:∀{l} {r:List Pk},l≤3→16*r.length+7-l≤n→gLev en n l r≠.oof
 ops:∀{l e} {r:List Pk},l<3→16*r.length+1≤n→gOps en n l e r≠.oof
 app:∀{r:List Pk},16*r.length+3≤n→gApp en n r≠.oof
 con:∀{e} {r:List Pk},16*r.length+2≤n→gConArgs en n e r≠.oof
 args:∀{e} {r:List Pk},16*r.length+2≤n→gAppArgs en n e r≠.oof
 atom:∀{r:List Pk},16*r.length+1≤n→gAtom en n r≠.oof
theorem exNe:∀n,ExNe en n
 |0=>by constructor<;>intros<;>omega
 |n+1=>by
  have I:=exNe n
  have J:=exLen (en:=en) n
  have P:=(gPt_ne (en:=en) n).1
  have P':=(gPt_len (en:=en) n).1
  constructor
  ·intro r h
   rw[gEx]
   split
   ·rename_i q
    have l0:=tail_lt' (by decide) q
    refine bind_ne word_ne λ_ r1 h1=>bind_ne need_ne λ_ r2 h2=>?_
    have l1:=word_ok (by decide) h1
    have l2:=need_ok (by decide) h2
    exact bind_ne (I.ex (by omega)) λ_ _ _=>by simp
   ·split
    ·rename_i q
     have l0:=tail_lt' (by decide) q
     split
     ·rename_i q1
      have l1:=tail_lt' (by decide) q1
      refine bind_ne word_ne λ_ r1 h1=>bind_ne word_ne λ_ r2 h2=>?_
      have l2:=word_ok (by decide) h1
      have l3:=word_ok (by decide) h2
      exact I.lt (by omega)
     ·refine bind_ne word_ne λ_ r1 h1=>?_
      have l2:=word_ok (by decide) h1
      exact I.lt (by omega)
    ·split
     ·rename_i q
      have l0:=tail_lt' (by decide) q
      refine bind_ne (I.ex (by omega)) λ_ r1 h1=>bind_ne need_ne λ_ r2 h2=>?_
      have l1:=J.ex h1
      have l2:=need_ok (by decide) h2
      refine bind_ne (I.ex (by omega)) λ_ r3 h3=>bind_ne need_ne λ_ r4 h4=>?_
      have l3:=J.ex h3
      have l4:=need_ok (by decide) h4
      exact bind_ne (I.ex (by omega)) λ_ _ _=>by simp
     ·split
      ·rename_i q
       have l0:=tail_lt' (by decide) q
       refine bind_ne (I.ex (by omega)) λ_ r1 h1=>bind_ne need_ne λ_ r2 h2=>?_
       have l1:=J.ex h1
       have l2:=need_ok (by decide) h2
       exact I.br (by omega)
      ·refine bind_ne (I.lev (by omega) (by omega)) λ_ r1 h1=>?_
       have l1:=J.lev h1
       split
       ·rename_i q
        have l0:=tail_lt' (by decide) q
        exact bind_ne (I.ex (by omega)) λ_ _ _=>by simp
       ·simp
  ·intro e r h
   rw[gLet]
   refine bind_ne need_ne λ_ r1 h1=>?_
   have l1:=need_ok (by decide) h1
   refine bind_ne (I.ex (by omega)) λ_ r2 h2=>bind_ne need_ne λ_ r3 h3=>?_
   have l2:=J.ex h2
   have l3:=need_ok (by decide) h3
   exact bind_ne (I.ex (by omega)) λ_ _ _=>by simp
  ·intro e r h
   rw[gBr]
   refine bind_ne (P _ (by omega)) λ_ r1 h1=>bind_ne need_ne λ_ r2 h2=>?_
   have l1:=P' _ _ _ h1
   have l2:=need_ok (by decide) h2
   refine bind_ne (I.ex (by omega)) λ_ r3 h3=>?_
   have l3:=J.ex h3
   split
   ·rename_i q
    have l0:=tail_lt' (by decide) q
    exact I.br (by omega)
   ·exact bind_ne need_ne λ_ _ _=>by simp
  ·intro l r hl h
   rw[gLev]
   split
   ·rename_i q
    have:l=3:=by simpa using q
    exact I.app (by omega)
   ·rename_i q
    have:l≠3:=by simpa using q
    refine bind_ne (I.lev (by omega) (by omega)) λ_ r1 h1=>?_
    have l1:=J.lev h1
    exact I.ops (by omega) (by omega)
  ·intro l e r hl h
   rw[gOps]
   split
   ·rename_i q
    have l0:=sg_lt q
    refine bind_ne (I.lev (by omega) (by omega)) λ_ r1 h1=>?_
    have l1:=J.lev h1
    split
    ·simp
    ·exact I.ops (by omega) (by omega)
   ·simp
  ·intro r h
   rw[gApp]
   split
   ·refine bind_ne (I.atom (by omega)) λ_ r1 h1=>?_
    have l1:=J.atom h1
    exact I.con (by omega)
   ·split
    ·rename_i q
     have l0:=tail_lt' (by decide) q
     exact bind_ne (I.atom (by omega)) λ_ _ _=>by simp
    ·refine bind_ne (I.atom (by omega)) λ_ r1 h1=>?_
     have l1:=J.atom h1
     exact I.args (by omega)
  ·intro e r h
   rw[gConArgs]
   split
   ·refine bind_ne (I.atom (by omega)) λ_ r1 h1=>?_
    have l1:=J.atom h1
    exact I.con (by omega)
   ·simp
  ·intro e r h
   rw[gAppArgs]
   split
   ·refine bind_ne (I.atom (by omega)) λ_ r1 h1=>?_
    have l1:=J.atom h1
    exact I.args (by omega)
   ·simp
  ·intro r h
   rw[gAtom]
   split
   ·simp
   ·split
    ·simp
    ·split
     ·simp
     ·refine bind_ne need_ne λ_ r1 h1=>?_
      have l1:=need_ok (by decide) h1
      exact bind_ne (I.ex (by omega)) λ_ _ _=>bind_ne need_ne λ_ _ _=>by simp
theorem gParams_len:∀r:List Pk,(gParams r).2.length≤r.length
 |[]=>Nat.le_refl _
 |t::r=>by
  have:=gParams_len r
  unfold gParams
  split
  ·simp only[List.length_cons];omega
  ·exact Nat.le_refl _
theorem gFields_len:∀(n:Nat) {l:List Ty} {r:List Pk} {v r'},gFields en n l r=.ok v r'→r'.length≤r.length
 |0,_,_,_,_,h=>by simp[gFields] at h
 |n+1,l,r,v,r',h=>by
  rw[gFields] at h
  split at h
  ·obtain⟨u,r1,h1,h2⟩:=bind_ok h
   have l1:=(gTy_len (en:=en) n).2.2.2 _ _ _ h1
   have l2:=gFields_len n h2
   omega
  ·cases h;exact Nat.le_refl _
theorem gFields_ne:∀(n:Nat) {l:List Ty} {r:List Pk},4*r.length+2≤n→gFields en n l r≠.oof
 |0,_,_,h=>by omega
 |n+1,l,r,h=>by
  rw[gFields]
  split
  ·refine bind_ne ((gTy_ne (en:=en) n).2.2.2 _ (by omega)) λu r1 h1=>?_
   have l1:=(gTy_len (en:=en) n).2.2.2 _ _ _ h1
   exact gFields_ne n (by omega)
  ·simp
theorem gCons_len:∀(n:Nat) {l:List Cn} {r:List Pk} {v r'},gCons en n l r=.ok v r'→r'.length<r.length
 |0,_,_,_,_,h=>by simp[gCons] at h
 |n+1,l,r,v,r',h=>by
  rw[gCons] at h
  obtain⟨s,r1,h1,h2⟩:=bind_ok h
  obtain⟨a,r2,h3,h4⟩:=bind_ok h2
  have l1:=word_ok (by decide) h1
  have l2:=gFields_len n h3
  split at h4
  ·rename_i q
   have l0:=tail_lt' (by decide) q
   have l3:=gCons_len n h4
   omega
  ·cases h4;omega
theorem gCons_ne:∀(n:Nat) {l:List Cn} {r:List Pk},4*r.length+1≤n→gCons en n l r≠.oof
 |0,_,_,h=>by omega
 |n+1,l,r,h=>by
  rw[gCons]
  refine bind_ne word_ne λs r1 h1=>?_
  have l1:=word_ok (by decide) h1
  refine bind_ne (gFields_ne n (by omega)) λa r2 h2=>?_
  have l2:=gFields_len n h2
  split
  ·rename_i q
   have l0:=tail_lt' (by decide) q
   exact gCons_ne n (by omega)
  ·simp
theorem gDecl_len{n:Nat}{r:List Pk}{v r'}(h:gDecl en n r=.ok v r'):r'.length<r.length:=by
 unfold gDecl at h
 obtain⟨_,r1,h1,h2⟩:=bind_ok h
 obtain⟨_,r2,h3,h4⟩:=bind_ok h2
 obtain⟨_,r3,h5,h6⟩:=bind_ok h4
 obtain⟨_,r4,h7,h8⟩:=bind_ok h6
 obtain⟨_,r5,h9,h10⟩:=bind_ok h8
 have l1:=need_ok (by decide) h1
 have l2:=word_ok (by decide) h3
 have l3:=need_ok (by decide) h5
 have l4:=gParams_len r2
 have l5:=gCons_len n h7
 have l6:=need_ok (by decide) h9
 cases h10
 omega
theorem gDecl_ne{n:Nat}{r:List Pk}(h:4*r.length+1≤n):gDecl en n r≠.oof:=by
 unfold gDecl
 refine bind_ne need_ne λ_ r1 h1=>bind_ne word_ne λs r2 h2=>bind_ne need_ne λ_ r3 h3=>?_
 have l1:=need_ok (by decide) h1
 have l2:=word_ok (by decide) h2
 have l3:=need_ok (by decide) h3
 have l4:=gParams_len r2
 exact bind_ne (gCons_ne n (by omega)) λ_ _ _=>bind_ne need_ne λ_ _ _=>by simp
theorem gProg_ne:∀(n:Nat) {l:List Dc} {r:List Pk},16*r.length+9≤n→gProg en n l r≠.oof
 |0,_,_,h=>by omega
 |n+1,l,r,h=>by
  rw[gProg]
  split
  ·refine bind_ne (gDecl_ne (by omega)) λd r1 h1=>?_
   have l1:=gDecl_len h1
   exact gProg_ne n (by omega)
  ·refine bind_ne ((exNe n).ex (by omega)) λe r1 h1=>?_
   split<;>simp
end Go.Proofs.YtmlghadphdpbjaaGreatDoor.Pa
