/- The place of a first fault lies in the text; what was read is well formed (the law ParseTakes). The same tokens at other places, and before more of them, are read alike. How a text is cut that ends, or goes on after the end of a line. Nothing of this seat. What texts come to that hold a text: in brackets, in a function, in a let (the law ParseBrackets). The law ParseBrackets. Proved: a text in brackets, in a function, in a let is read as the text (the law ParseBrackets, in plain words). -/
import Derived.Test.YtmlghadphdpbjaaGreatDoorRU
set_option linter.all false
set_option autoImplicit false
set_option maxRecDepth 100000
namespace Go.Proofs.YtmlghadphdpbjaaGreatDoor.Pa
open Go Go.Proofs.YtmlghadphdpbjaaGreatDoor.Am
variable{en:Int}{X r r1 r':List Pk}{α β:Type}
variable{s:Str}{g:Glob}{Qf:OGP}
end Go.Proofs.YtmlghadphdpbjaaGreatDoor.Pa
namespace Go.Proofs.YtmlghadphdpbjaaGreatDoor.Pa
open Go Go.Proofs.YtmlghadphdpbjaaGreatDoor.Am
def RelK(P:Int→Int→Prop):List Pk→List Pk→Prop
 |[],[]=>True
 |t::r,u::s=>u.1=t.1∧P t.2 u.2∧RelK P r s
 |_,_=>False
mutual
def ptW(P:Int→Int→Prop):Pt→Pt→Prop
 |.mk k s n a p,.mk k' s' n' a' p'=>k=k'∧s=s'∧n=n'∧ptsW P a a'∧P p p'
def ptsW(P:Int→Int→Prop):List Pt→List Pt→Prop
 |[],[]=>True
 |x::l,y::m=>ptW P x y∧ptsW P l m
 |_,_=>False
end
mutual
def exW(P:Int→Int→Prop):Ex'→Ex'→Prop
 |.mk k s u n a b p,.mk k' s' u' n' a' b' p'=>k=k'∧s=s'∧u=u'∧n=n'∧exsW P a a'∧ptsW P b b'∧P p p'
def exsW(P:Int→Int→Prop):List Ex'→List Ex'→Prop
 |[],[]=>True
 |x::l,y::m=>exW P x y∧exsW P l m
 |_,_=>False
end
variable{P:Int→Int→Prop}{en en':Int}{r r0 r1 r' X:List Pk}{α β:Type}
theorem e0W:exsW P [] []:=by simp only[exsW]
theorem p0W:ptsW P [] []:=by simp only[ptsW]
theorem ecW{x y:Ex'}{l m:List Ex'}(h:exW P x y)(h':exsW P l m):exsW P (x::l) (y::m):=by simp only[exsW];exact⟨h,h'⟩
theorem pcW{x y:Pt}{l m:List Pt}(h:ptW P x y)(h':ptsW P l m):ptsW P (x::l) (y::m):=by simp only[ptsW];exact⟨h,h'⟩
theorem mkW{k:Int}{s u:Str}{n:Int}{a a':List Ex'}{b b':List Pt}{p p':Int}(ha:exsW P a a')(hb:ptsW P b b')(hp:P p p'):exW P (.mk k s u n a b p) (.mk k s u n a' b' p'):=by
 simp only[exW]
 exact⟨trivial,trivial,trivial,trivial,ha,hb,hp⟩
variable{V:α→α→Prop}{W:β→β→Prop}
structure Hd(P:Int→Int→Prop)(X:List Pk)(en en':Int)(r r0:List Pk):Prop where
 kd:kdK (r0++X)=kdK r
 tx:txK (r0++X)=txK r
 nm:nmK (r0++X)=nmK r
 pl:P (plK en r) (plK en' (r0++X))
 tl:(r0++X).tail=r0.tail++X
 rel:RelK P r.tail r0.tail
end Go.Proofs.YtmlghadphdpbjaaGreatDoor.Pa
namespace Go.Proofs.YtmlghadphdpbjaaGreatDoor.Pa
open Go Go.Proofs.YtmlghadphdpbjaaGreatDoor.Am
variable{u w:Str}{a n m:Nat}{l acc:List Pk}
theorem lexF_fuel:∀(n m a:Nat) (u:Str) (acc:List Pk),u.length<n→u.length<m→lexF n a u acc=lexF m a u acc
 |0,_,_,_,_,h,_=>by omega
 |n+1,0,_,_,_,_,h=>by omega
 |n+1,m+1,a,u,acc,hn,hm=>by
  rw[lexF,lexF]
  have hsk:=skipN_le u
  split
  ·rfl
  ·rename_i c r hd
   have hl:(c::r).length=u.length-skipN u:=by rw[←hd];exact List.length_drop ..
   split
   ·rename_i he
    have h0:(tokF (c::r)).2.2=0:=by
     unfold lexErr at he
     split at he
     ·cases he
     ·exact he
    obtain⟨_,m1,m2⟩:=tokF_good (p:=0) (Int.le_refl _) h0
    have hld:((c::r).drop (tokF (c::r)).2.1).length=(c::r).length-(tokF (c::r)).2.1:=List.length_drop ..
    exact lexF_fuel n m _ _ _ (by omega) (by omega)
   ·rfl
def lexA(a:Nat)(u:Str)(acc:List Pk):LexR:=lexF (u.length+1) a u acc
theorem lexA_of(h:u.length<n):lexF n a u acc=lexA a u acc:=lexF_fuel _ _ _ _ _ h (Nat.lt_succ_self _)
theorem lexA_end(h:u.drop (skipN u)=[]):lexA a u acc=.ok acc:=by
 unfold lexA
 rw[lexF,h]
theorem lexA_tok{c:UInt8}{r:Str}(h:u.drop (skipN u)=c::r)(he:lexErr (tokF (c::r)).2.2 acc.length=0):lexA a u acc=lexA (a+skipN u+(tokF (c::r)).2.1) ((c::r).drop (tokF (c::r)).2.1) (acc++[((tokF (c::r)).1,((a+skipN u:Nat):Int))]):=by
 have hsk:=skipN_le u
 have hl:(c::r).length=u.length-skipN u:=by rw[←h];exact List.length_drop ..
 have h0:(tokF (c::r)).2.2=0:=by
  unfold lexErr at he
  split at he
  ·cases he
  ·exact he
 obtain⟨_,m1,m2⟩:=tokF_good (p:=0) (Int.le_refl _) h0
 have hld:((c::r).drop (tokF (c::r)).2.1).length=(c::r).length-(tokF (c::r)).2.1:=List.length_drop ..
 have e0:lexA a u acc=lexF (u.length+1) a u acc:=rfl
 rw[e0,lexF,h]
 dsimp only
 rw[if_pos he]
 have hc:(c::r).length=r.length+1:=List.length_cons
 exact lexA_of (by omega)
theorem lexA_err{c:UInt8}{r:Str}(h:u.drop (skipN u)=c::r)(he:lexErr (tokF (c::r)).2.2 acc.length≠0):lexA a u acc=.err (a+skipN u) (lexErr (tokF (c::r)).2.2 acc.length):=by
 unfold lexA
 rw[lexF,h]
 dsimp only
 rw[if_neg he]
end Go.Proofs.YtmlghadphdpbjaaGreatDoor.Pa
namespace Go.Proofs.YtmlghadphdpbjaaGreatDoor.Pa
open Go Go.Proofs.YtmlghadphdpbjaaGreatDoor.Am
variable{P:Int→Int→Prop}{en en':Int}{r r0 r1 r' X Y:List Pk}{s u:Str}{a n m:Nat}{l acc:List Pk}
theorem limF_or(nw:Bool)(p:Pg):limF nw p=0∨limF nw p=3∨limF nw p=4:=by
 unfold limF
 cases gtI 32 p.ds.length||(gtI 2048 (upto 0 (szEx p.e))||!nw)
 ·cases p.ds.any badDc
  ·cases gtI 256 ((max (dpEx p.e) (dpDcs p.ds):Nat):Int)<;>simp
  ·simp
 ·simp
theorem lex_tok{c:UInt8}{r:Str}{tk:Tk}{k:Nat}(hb:skipN (c::r)=0)(ht:tokF (c::r)=(tk,k,0))(hl:acc.length<4096):lexA a (c::r) acc=lexA (a+k) ((c::r).drop k) (acc++[(tk,(a:Int))]):=by
 have h:(c::r).drop (skipN (c::r))=c::r:=by rw[hb];rfl
 rw[lexA_tok h (by rw[ht];unfold lexErr;rw[if_neg (by omega)]),hb,ht]
 rfl
theorem lex_blank:lexA a (32::u) acc=lexA (a+1) u acc:=by
 have hs:skipN (32::u)=1+skipN u:=by simp[skipN,blank]
 have hd:(32::u).drop (skipN (32::u))=u.drop (skipN u):=by rw[hs,Nat.add_comm,List.drop_succ_cons]
 have e3:a+(1+skipN u)=a+1+skipN u:=by omega
 cases hw:u.drop (skipN u) with
 |nil=>rw[lexA_end (hd.trans hw),lexA_end hw]
 |cons c r=>
  by_cases he:lexErr (tokF (c::r)).2.2 acc.length=0
  ·rw[lexA_tok (hd.trans hw) he,lexA_tok hw he,hs,e3]
  ·rw[lexA_err (hd.trans hw) he,lexA_err hw he,hs,e3]
theorem lexA_nil:lexA a [] acc=.ok acc:=lexA_end rfl
theorem lexAll_A(hs:s.length≤8192):lexAll s=lexA 0 s []:=by
 unfold lexAll
 rw[if_neg (by omega)]
 rfl
def tC(p:Int):Pk:=((6,sClose,0),p)
theorem parseAll_of{t:Str}{l:List Pk}{v:Pg}{r':List Pk}(hl:lexAll t=.ok l)(h:gProg t.length (16*l.length+9) [] l=.ok v r'):parseAll t=if limF (!flEx v.e) v=0 then .ok v else .err 0 (limF (!flEx v.e) v):=by
 unfold parseAll
 rw[hl]
 dsimp only
 rw[h]
end Go.Proofs.YtmlghadphdpbjaaGreatDoor.Pa
namespace Go.Proofs.YtmlghadphdpbjaaGreatDoor.Pa
open Go Go.Proofs.YtmlghadphdpbjaaGreatDoor.Am
variable{s u:Str}{a n m:Nat}{l acc:List Pk}{v:Pg}{g:Glob}{Qf:OGP}
def t1(s:Str):Str:=40::40::(s++[10,41,41])
def t2(s:Str):Str:=102::117::110::32::120::32::45::62::32::s
def t3(s:Str):Str:=108::101::116::32::120::32::61::32::(s++10::105::110::32::s)
end Go.Proofs.YtmlghadphdpbjaaGreatDoor.Pa
namespace Go.Proofs.YtmlghadphdpbjaaGreatDoor.Pa
open Go Go.Proofs.YtmlghadphdpbjaaGreatDoor.Am
variable{s:Str}{v:Pg}{g:Glob}{Qf:OGP}
end Go.Proofs.YtmlghadphdpbjaaGreatDoor.Pa
