/- The place of a first fault lies in the text; what was read is well formed (the law ParseTakes). The same tokens at other places, and before more of them, are read alike. How a text is cut that ends, or goes on after the end of a line. Nothing of this seat. What texts come to that hold a text: in brackets, in a function, in a let (the law ParseBrackets). The law ParseBrackets. Proved: a text in brackets, in a function, in a let is read as the text (the law ParseBrackets, in plain words). -/
import Derived.Test.YtmlghadphdpbjaaGreatDoorRU
set_option linter.all false
set_option autoImplicit false
set_option maxRecDepth 100000
namespace Go.Proofs.YtmlghadphdpbjaaGreatDoor.Pa
open Go Go.Proofs.YtmlghadphdpbjaaGreatDoor.Am
variable{en:Int}{X r r1 r':List Pk}{α β:Type}
variable{s:Str}{g:Glob}{Qf:OGP}
theorem parseAll_ok{v:Pg}(h:parseAll s=.ok v):POk v∧limF (!flEx v.e) v=0:=by
 unfold parseAll at h
 split at h
 ·cases h
 ·rename_i l hl
  obtain⟨hg,hlen⟩:=lexAll_good hl
  split at h
  ·rename_i v' r' hp
   split at h
   ·rename_i h0
    cases h
    exact⟨gProg_ok _ ⟨List.suffix_refl _,hg⟩ (by omega) (λd hd=>by cases hd) hp,h0⟩
   ·cases h
  ·cases h
  ·cases h
theorem parseAll_ne{p e:Int}(h:parseAll s=.err p e):e≠0:=by
 unfold parseAll at h
 split at h
 ·rename_i a e' hl
  injection h with h1 h2
  subst h2
  exact(lexAll_err hl).1
 ·rename_i l hl
  split at h
  ·split at h
   ·cases h
   ·rename_i h0
    injection h with h1 h2
    subst h2
    exact h0
  ·injection h with h1 h2
   subst h2
   decide
  ·rename_i hq
   exact absurd hq (gProg_ne _ (Nat.le_refl _))
theorem okTys_of:∀{l:List Ty},(∀t∈l,okTy t=true)→okTys l=true
 |[],_=>rfl
 |t::l,h=>by simp only[okTys,h t List.mem_cons_self,okTys_of (l:=l) λu hu=>h u (List.mem_cons_of_mem _ hu),Bool.true_and]
theorem okDc_of{d:Dc}(h:DOk d):okDc d=true:=by
 have h1:¬((d.cs.length:Int)==0)=true:=by
  have:=List.length_pos_iff.2 h.ne
  simp;exact h.ne
 simp only[okDc,h.s,Bool.true_and,Bool.and_eq_true]
 refine⟨by simpa using h1,List.all_eq_true.2 h.ps,List.all_eq_true.2 λc hc=>?_⟩
 obtain⟨c1,c2⟩:=h.cs c hc
 simp only[okCn,c1,Bool.true_and]
 exact okTys_of λt ht=>(c2 t ht).1
theorem POk.check{v:Pg}(h:POk v)(h0:limF (!flEx v.e) v=0):checkP v=true:=by
 unfold checkP
 rw[nw_flEx _ h.ok,h0,h.ok]
 simp only[Bool.true_and,Bool.and_eq_true]
 exact⟨rfl,List.all_eq_true.2 λd hd=>okDc_of (h.ds d hd)⟩
end Go.Proofs.YtmlghadphdpbjaaGreatDoor.Pa
namespace Go.Proofs.YtmlghadphdpbjaaGreatDoor.Pa
open Go Go.Proofs.YtmlghadphdpbjaaGreatDoor.Am
def RelK(P:Int→Int→Prop):List Pk→List Pk→Prop
 |[],[]=>True
 |t::r,u::s=>u.1=t.1∧P t.2 u.2∧RelK P r s
 |_,_=>False
mutual
def ptW(P:Int→Int→Prop):Pt→Pt→Prop
 |.mk k s n a p,.mk k' s' n' a' p'=>k=k'∧s=s'∧n=n'∧ptsW P a a'∧P p p'
def ptsW(P:Int→Int→Prop):List Pt→List Pt→Prop
 |[],[]=>True
 |x::l,y::m=>ptW P x y∧ptsW P l m
 |_,_=>False
end
mutual
def exW(P:Int→Int→Prop):Ex'→Ex'→Prop
 |.mk k s u n a b p,.mk k' s' u' n' a' b' p'=>k=k'∧s=s'∧u=u'∧n=n'∧exsW P a a'∧ptsW P b b'∧P p p'
def exsW(P:Int→Int→Prop):List Ex'→List Ex'→Prop
 |[],[]=>True
 |x::l,y::m=>exW P x y∧exsW P l m
 |_,_=>False
end
variable{P:Int→Int→Prop}{en en':Int}{r r0 r1 r' X:List Pk}{α β:Type}
theorem e0W:exsW P [] []:=by simp only[exsW]
theorem p0W:ptsW P [] []:=by simp only[ptsW]
theorem ecW{x y:Ex'}{l m:List Ex'}(h:exW P x y)(h':exsW P l m):exsW P (x::l) (y::m):=by simp only[exsW];exact⟨h,h'⟩
theorem pcW{x y:Pt}{l m:List Pt}(h:ptW P x y)(h':ptsW P l m):ptsW P (x::l) (y::m):=by simp only[ptsW];exact⟨h,h'⟩
theorem mkW{k:Int}{s u:Str}{n:Int}{a a':List Ex'}{b b':List Pt}{p p':Int}(ha:exsW P a a')(hb:ptsW P b b')(hp:P p p'):exW P (.mk k s u n a b p) (.mk k s u n a' b' p'):=by
 simp only[exW]
 exact⟨trivial,trivial,trivial,trivial,ha,hb,hp⟩
variable{V:α→α→Prop}{W:β→β→Prop}
structure Hd(P:Int→Int→Prop)(X:List Pk)(en en':Int)(r r0:List Pk):Prop where
 kd:kdK (r0++X)=kdK r
 tx:txK (r0++X)=txK r
 nm:nmK (r0++X)=nmK r
 pl:P (plK en r) (plK en' (r0++X))
 tl:(r0++X).tail=r0.tail++X
 rel:RelK P r.tail r0.tail
end Go.Proofs.YtmlghadphdpbjaaGreatDoor.Pa
namespace Go.Proofs.YtmlghadphdpbjaaGreatDoor.Pa
open Go Go.Proofs.YtmlghadphdpbjaaGreatDoor.Am
variable{u w:Str}{a n m:Nat}{l acc:List Pk}
mutual
theorem skip_nl:∀u:Str,skipN (u++10::w)=if skipN u<u.length then skipN u else u.length+1+skipN w
 |[]=>by simp[skipN,blank]
 |c::r=>by
  have h1:=skip_nl r
  have h2:=com_nl r
  simp only[List.cons_append,skipN,List.length_cons]
  split
  ·rw[h1]
   by_cases h:skipN r<r.length
   ·rw[if_pos h,if_pos (by omega)]
   ·rw[if_neg h,if_neg (by omega)];omega
  ·split
   ·rw[h2]
    by_cases h:comN r<r.length
    ·rw[if_pos h,if_pos (by omega)]
    ·rw[if_neg h,if_neg (by omega)];omega
   ·rw[if_pos (by omega)]
theorem com_nl:∀u:Str,comN (u++10::w)=if comN u<u.length then comN u else u.length+1+skipN w
 |[]=>by simp[comN]
 |c::r=>by
  have h1:=skip_nl r
  have h2:=com_nl r
  simp only[List.cons_append,comN,List.length_cons]
  split
  ·rw[h1]
   by_cases h:skipN r<r.length
   ·rw[if_pos h,if_pos (by omega)]
   ·rw[if_neg h,if_neg (by omega)];omega
  ·rw[h2]
   by_cases h:comN r<r.length
   ·rw[if_pos h,if_pos (by omega)]
   ·rw[if_neg h,if_neg (by omega)];omega
end
theorem tw_nl{p:Int→Bool}(hp:p 10=false):∀r:Str,tw p (r++10::w)=tw p r
 |[]=>by
  have:p ((10:UInt8).toNat:Int)=false:=hp
  simp only[tw,List.nil_append,List.takeWhile_cons,this,List.takeWhile_nil]
  simp
 |c::r=>by
  have ih:=tw_nl hp r
  unfold tw at ih⊢
  simp only[List.cons_append,List.takeWhile_cons,ih]
theorem run_nl{p:Int→Bool}(hp:p 10=false)(r:Str):runN p (r++10::w)=runN p r:=by
 rw[←tw_len,←tw_len,tw_nl hp]
theorem pre_nl:∀(x r:Str),(10:UInt8) ∉ x→x.isPrefixOf (r++10::w)=x.isPrefixOf r
 |[],_,_=>by simp
 |y::x,[],h=>by
  have:y≠10:=λe=>h (by simp[e])
  simp[List.isPrefixOf,this]
 |y::x,c::r,h=>by
  have:=pre_nl x r (λe=>h (List.mem_cons_of_mem _ e))
  simp[List.isPrefixOf,this]
theorem sign_nl:∀(L:List Str) (r:Str),(∀x∈L,(10:UInt8) ∉ x)→signF (r++10::w) L=signF r L
 |[],_,_=>rfl
 |x::L,r,h=>by
  simp only[signF,pre_nl x r (h x List.mem_cons_self),sign_nl L r λy hy=>h y (List.mem_cons_of_mem _ hy)]
theorem tok_nl(c:UInt8)(r:Str):tokF (c::r++10::w)=tokF (c::r):=by
 have e1:ptB 10=false:=by decide
 have e2:dgB 10=false:=by decide
 have e3:quoteB c (r++10::w)=quoteB c r:=by
  unfold quoteB
  rw[run_nl e1]
  cases r with
  |nil=>simp[runN]
  |cons d r=>rfl
 have e4:signF (c::(r++10::w)) signL=signF (c::r) signL:=sign_nl signL (c::r) (by decide)
 rw[List.cons_append,tokF_eq,tokF_eq,tw_nl e1,tw_nl e2,run_nl e1,run_nl e2,e3,e4]
theorem lexF_fuel:∀(n m a:Nat) (u:Str) (acc:List Pk),u.length<n→u.length<m→lexF n a u acc=lexF m a u acc
 |0,_,_,_,_,h,_=>by omega
 |n+1,0,_,_,_,_,h=>by omega
 |n+1,m+1,a,u,acc,hn,hm=>by
  rw[lexF,lexF]
  have hsk:=skipN_le u
  split
  ·rfl
  ·rename_i c r hd
   have hl:(c::r).length=u.length-skipN u:=by rw[←hd];exact List.length_drop ..
   split
   ·rename_i he
    have h0:(tokF (c::r)).2.2=0:=by
     unfold lexErr at he
     split at he
     ·cases he
     ·exact he
    obtain⟨_,m1,m2⟩:=tokF_good (p:=0) (Int.le_refl _) h0
    have hld:((c::r).drop (tokF (c::r)).2.1).length=(c::r).length-(tokF (c::r)).2.1:=List.length_drop ..
    exact lexF_fuel n m _ _ _ (by omega) (by omega)
   ·rfl
def lexA(a:Nat)(u:Str)(acc:List Pk):LexR:=lexF (u.length+1) a u acc
theorem lexA_of(h:u.length<n):lexF n a u acc=lexA a u acc:=lexF_fuel _ _ _ _ _ h (Nat.lt_succ_self _)
theorem lexA_end(h:u.drop (skipN u)=[]):lexA a u acc=.ok acc:=by
 unfold lexA
 rw[lexF,h]
theorem lexA_tok{c:UInt8}{r:Str}(h:u.drop (skipN u)=c::r)(he:lexErr (tokF (c::r)).2.2 acc.length=0):lexA a u acc=lexA (a+skipN u+(tokF (c::r)).2.1) ((c::r).drop (tokF (c::r)).2.1) (acc++[((tokF (c::r)).1,((a+skipN u:Nat):Int))]):=by
 have hsk:=skipN_le u
 have hl:(c::r).length=u.length-skipN u:=by rw[←h];exact List.length_drop ..
 have h0:(tokF (c::r)).2.2=0:=by
  unfold lexErr at he
  split at he
  ·cases he
  ·exact he
 obtain⟨_,m1,m2⟩:=tokF_good (p:=0) (Int.le_refl _) h0
 have hld:((c::r).drop (tokF (c::r)).2.1).length=(c::r).length-(tokF (c::r)).2.1:=List.length_drop ..
 have e0:lexA a u acc=lexF (u.length+1) a u acc:=rfl
 rw[e0,lexF,h]
 dsimp only
 rw[if_pos he]
 have hc:(c::r).length=r.length+1:=List.length_cons
 exact lexA_of (by omega)
theorem lexA_err{c:UInt8}{r:Str}(h:u.drop (skipN u)=c::r)(he:lexErr (tokF (c::r)).2.2 acc.length≠0):lexA a u acc=.err (a+skipN u) (lexErr (tokF (c::r)).2.2 acc.length):=by
 unfold lexA
 rw[lexF,h]
 dsimp only
 rw[if_neg he]
theorem lexA_nl:∀(k a:Nat) (u:Str) (acc l:List Pk),u.length<k→lexA a u acc=.ok l→lexA a (u++10::w) acc=lexA (a+u.length+1) w l
 |0,_,_,_,_,h,_=>by omega
 |k+1,a,u,acc,l,hk,h=>by
  have hsk:=skipN_le u
  cases hd:u.drop (skipN u) with
  |nil=>
   rw[lexA_end hd] at h
   cases h
   have hs:skipN u=u.length:=by
    have:=congrArg List.length hd
    rw[List.length_drop,List.length_nil] at this
    omega
   have e1:skipN (u++10::w)=u.length+1+skipN w:=by rw[skip_nl,if_neg (by omega)]
   have e2:(u++10::w).drop (skipN (u++10::w))=w.drop (skipN w):=by
    rw[e1,Nat.add_assoc,←List.drop_drop,List.drop_left' rfl,Nat.add_comm 1,List.drop_succ_cons]
   cases hw:w.drop (skipN w) with
   |nil=>rw[lexA_end (e2.trans hw),lexA_end hw]
   |cons c r=>
    have e3:a+(u.length+1+skipN w)=a+u.length+1+skipN w:=by omega
    by_cases he:lexErr (tokF (c::r)).2.2 acc.length=0
    ·rw[lexA_tok (e2.trans hw) he,lexA_tok hw he,e1,e3]
    ·rw[lexA_err (e2.trans hw) he,lexA_err hw he,e1,e3]
  |cons c r=>
   have hl:(c::r).length=u.length-skipN u:=by rw[←hd];exact List.length_drop ..
   have hlt:skipN u<u.length:=by rw[List.length_cons] at hl;omega
   have e1:skipN (u++10::w)=skipN u:=by rw[skip_nl,if_pos hlt]
   have e2:(u++10::w).drop (skipN (u++10::w))=c::(r++10::w):=by
    rw[e1,List.drop_append_of_le_length (by omega),hd]
    rfl
   have et:tokF (c::(r++10::w))=tokF (c::r):=tok_nl c r
   by_cases he:lexErr (tokF (c::r)).2.2 acc.length=0
   ·have h0:(tokF (c::r)).2.2=0:=by
     unfold lexErr at he
     split at he
     ·cases he
     ·exact he
    obtain⟨_,m1,m2⟩:=tokF_good (p:=0) (Int.le_refl _) h0
    have hld:((c::r).drop (tokF (c::r)).2.1).length=(c::r).length-(tokF (c::r)).2.1:=List.length_drop ..
    rw[lexA_tok hd he] at h
    have ed:(c::(r++10::w)).drop (tokF (c::r)).2.1=(c::r).drop (tokF (c::r)).2.1++10::w:=by
     rw[←List.cons_append,List.drop_append_of_le_length m2]
    rw[lexA_tok e2 (by rw[et];exact he),et,ed,e1,lexA_nl k _ _ _ _ (by omega) h]
    congr 1
    omega
   ·rw[lexA_err hd he] at h
    cases h
end Go.Proofs.YtmlghadphdpbjaaGreatDoor.Pa
namespace Go.Proofs.YtmlghadphdpbjaaGreatDoor.Pa
open Go Go.Proofs.YtmlghadphdpbjaaGreatDoor.Am
variable{P:Int→Int→Prop}{en en':Int}{r r0 r1 r' X Y:List Pk}{s u:Str}{a n m:Nat}{l acc:List Pk}
mutual
theorem ptW_same:∀{x y:Pt},ptW P x y→szPt y=szPt x∧dpPt y=dpPt x∧flPt y=flPt x∧eqPt false x y=true∧eqPt false y x=true
 |.mk k s n a p,.mk k' s' n' a' p',h=>by
  simp only[ptW] at h
  obtain⟨rfl,rfl,rfl,ha,_⟩:=h
  obtain⟨h0,h1,h2,h3,h4,h5⟩:=ptsW_same ha
  simp[szPt,dpPt,flPt,eqPt,h0,h1,h2,h3,h4,h5]
theorem ptsW_same:∀{x y:List Pt},ptsW P x y→y.length=x.length∧szPts y=szPts x∧dpPts y=dpPts x∧flPts y=flPts x∧eqPts false x y=true∧eqPts false y x=true
 |[],[],_=>by simp[szPts,dpPts,flPts,eqPts]
 |x::l,y::m,h=>by
  simp only[ptsW] at h
  obtain⟨h1,h2,h3,h4,h5⟩:=ptW_same h.1
  obtain⟨k0,k1,k2,k3,k4,k5⟩:=ptsW_same h.2
  simp[szPts,dpPts,flPts,eqPts,h1,h2,h3,h4,h5,k0,k1,k2,k3,k4,k5]
 |[],_::_,h=>by simp[ptsW] at h
 |_::_,[],h=>by simp[ptsW] at h
end
mutual
theorem exW_same:∀{x y:Ex'},exW P x y→szEx y=szEx x∧dpEx y=dpEx x∧flEx y=flEx x∧eqEx false x y=true∧eqEx false y x=true
 |.mk k s u n a b p,.mk k' s' u' n' a' b' p',h=>by
  simp only[exW] at h
  obtain⟨rfl,rfl,rfl,rfl,ha,hb,_⟩:=h
  obtain⟨h0,h1,h2,h3,h4,h5⟩:=exsW_same ha
  obtain⟨k0,k1,k2,k3,k4,k5⟩:=ptsW_same hb
  simp[szEx,dpEx,flEx,eqEx,h0,h1,h2,h3,h4,h5,k0,k1,k2,k3,k4,k5]
theorem exsW_same:∀{x y:List Ex'},exsW P x y→y.length=x.length∧szExs y=szExs x∧dpExs y=dpExs x∧flExs y=flExs x∧eqExs false x y=true∧eqExs false y x=true
 |[],[],_=>by simp[szExs,dpExs,flExs,eqExs]
 |x::l,y::m,h=>by
  simp only[exsW] at h
  obtain⟨h1,h2,h3,h4,h5⟩:=exW_same h.1
  obtain⟨k0,k1,k2,k3,k4,k5⟩:=exsW_same h.2
  simp[szExs,dpExs,flExs,eqExs,h1,h2,h3,h4,h5,k0,k1,k2,k3,k4,k5]
 |[],_::_,h=>by simp[exsW] at h
 |_::_,[],h=>by simp[exsW] at h
end
theorem lex_tok{c:UInt8}{r:Str}{tk:Tk}{k:Nat}(hb:skipN (c::r)=0)(ht:tokF (c::r)=(tk,k,0))(hl:acc.length<4096):lexA a (c::r) acc=lexA (a+k) ((c::r).drop k) (acc++[(tk,(a:Int))]):=by
 have h:(c::r).drop (skipN (c::r))=c::r:=by rw[hb];rfl
 rw[lexA_tok h (by rw[ht];unfold lexErr;rw[if_neg (by omega)]),hb,ht]
 rfl
theorem lex_blank:lexA a (32::u) acc=lexA (a+1) u acc:=by
 have hs:skipN (32::u)=1+skipN u:=by simp[skipN,blank]
 have hd:(32::u).drop (skipN (32::u))=u.drop (skipN u):=by rw[hs,Nat.add_comm,List.drop_succ_cons]
 have e3:a+(1+skipN u)=a+1+skipN u:=by omega
 cases hw:u.drop (skipN u) with
 |nil=>rw[lexA_end (hd.trans hw),lexA_end hw]
 |cons c r=>
  by_cases he:lexErr (tokF (c::r)).2.2 acc.length=0
  ·rw[lexA_tok (hd.trans hw) he,lexA_tok hw he,hs,e3]
  ·rw[lexA_err (hd.trans hw) he,lexA_err hw he,hs,e3]
theorem lexA_nil:lexA a [] acc=.ok acc:=lexA_end rfl
theorem lexAll_A(hs:s.length≤8192):lexAll s=lexA 0 s []:=by
 unfold lexAll
 rw[if_neg (by omega)]
 rfl
theorem parseAll_of{t:Str}{l:List Pk}{v:Pg}{r':List Pk}(hl:lexAll t=.ok l)(h:gProg t.length (16*l.length+9) [] l=.ok v r'):parseAll t=if limF (!flEx v.e) v=0 then .ok v else .err 0 (limF (!flEx v.e) v):=by
 unfold parseAll
 rw[hl]
 dsimp only
 rw[h]
end Go.Proofs.YtmlghadphdpbjaaGreatDoor.Pa
namespace Go.Proofs.YtmlghadphdpbjaaGreatDoor.Pa
open Go Go.Proofs.YtmlghadphdpbjaaGreatDoor.Am
variable{s u:Str}{a n m:Nat}{l acc:List Pk}{v:Pg}{g:Glob}{Qf:OGP}
def t1(s:Str):Str:=40::40::(s++[10,41,41])
def t2(s:Str):Str:=102::117::110::32::120::32::45::62::32::s
def t3(s:Str):Str:=108::101::116::32::120::32::61::32::(s++10::105::110::32::s)
end Go.Proofs.YtmlghadphdpbjaaGreatDoor.Pa
namespace Go.Proofs.YtmlghadphdpbjaaGreatDoor.Pa
open Go Go.Proofs.YtmlghadphdpbjaaGreatDoor.Am
variable{s:Str}{v:Pg}{g:Glob}{Qf:OGP}
end Go.Proofs.YtmlghadphdpbjaaGreatDoor.Pa
