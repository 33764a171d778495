/- The document's lexer: blanks, words, numbers. The document's lexer: one token; all of them. -/
import Derived.Test.YtmlghadphdpbjaaGreatDoorRR
set_option linter.all false
set_option autoImplicit false
set_option maxRecDepth 100000
namespace Go.Proofs.YtmlghadphdpbjaaGreatDoor.Pa
open Go Go.Proofs.YtmlghadphdpbjaaGreatDoor.Am
variable{s:Str}{g:Glob}{Qf:OGP}{i:Nat}
theorem dropC{c:UInt8}{r:Str}(h:s.drop i=c::r):i<s.length∧byteAt s (i:Int)=(c.toNat:Int)∧s.drop (i+1)=r:=by
 have hi:i<s.length:=by
  rcases Nat.lt_or_ge i s.length with h1|h1
  ·exact h1
  ·rw[List.drop_eq_nil_of_le h1] at h;cases h
 rw[List.drop_eq_getElem_cons hi] at h
 injection h with h1 h2
 exact⟨hi,by rw[byteAt_nat hi,h1],h2⟩
theorem dropN(h:s.drop i=[])(hi:i≤s.length):i=s.length:=by
 have:=congrArg List.length h
 rw[List.length_drop,List.length_nil] at this
 omega
theorem Br_len{A B:Prop}(h:i<s.length)(hA:A):Br (decide ((i:Int)<(s.length:Int))) A B:=by rw[Br_lt h];exact hA
theorem Br_end{A B:Prop}(h:i=s.length)(hB:B):Br (decide ((i:Int)<(s.length:Int))) A B:=by subst h;rw[Br_ge];exact hB
def numS3(n:Int)(a e:Nat):Val:=.tuple [.d (tkD (4,[],n) a),.d (.int .i64 e),.d (.bool true)]
structure NumQ(Qf:OGP)(g:Glob)(neg:Bool)(D:Str)(a e:Nat):Prop where
 some:∀n,numR neg D=some n→Qf (.val (numS3 n a e)) g
 none:numR neg D=none→∀t k,HasTy TT 109 t→Qf (.val (.tuple [.d t,.d (.int .i64 k),.d (.bool false)])) g
end Go.Proofs.YtmlghadphdpbjaaGreatDoor.Pa
namespace Go.Proofs.YtmlghadphdpbjaaGreatDoor.Pa
open Go Go.Proofs.YtmlghadphdpbjaaGreatDoor.Am
variable{s:Str}{g:Glob}{Qf:OGP}{i:Nat}
def sg2:List Str:=[[45,62],[61,61]]
def sg1:List Str:=[[124],[61],[40],[41],[59],[43],[45],[42],[47],[37],[60],[95]]
end Go.Proofs.YtmlghadphdpbjaaGreatDoor.Pa
