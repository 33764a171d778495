/- What functions of the program do, printed by wip/tools/sx/sx.py. Words: letters, keywords, what the two packages say of them. Tokens of the program's lexer: one token, its text. The program's question whether a text is a word of a kind. -/
import Derived.Test.YtiheejdkkjfenaaGreatDoorRF
set_option linter.all false
set_option autoImplicit false
set_option maxRecDepth 100000
namespace Go.Proofs.YtiheejdkkjfenaaGreatDoor.Pa
open Go Go.Proofs.YtiheejdkkjfenaaGreatDoor.Am
end Go.Proofs.YtiheejdkkjfenaaGreatDoor.Pa
namespace Go.Proofs.YtiheejdkkjfenaaGreatDoor.Pa
open Go Go.Proofs.YtiheejdkkjfenaaGreatDoor.Am
section
variable{n:Int}{s:Str}{g:Glob}{Qf:OGP}
theorem ty_strs{l:List Str}(hl:l.length≤2^30)(h:∀s∈l,s.length≤2^40)(hne:l≠[]):HasTy TT 82 (.sl 1 (l.map .str)):=by
 have h1:=sl_ty (t:=82) (xs:=l.map .str) undStrs (by kernel_rfl:TT.size 9=some 1) ⟨by simp;omega,λb hb=>by
  have:b=16:=by
   have e:TT.bytes 9=some 16:=by kernel_rfl
   rw[e] at hb
   exact(Option.some.inj hb).symm
  subst this
  simp only[List.length_map]
  omega⟩ (λx hx=>by
   obtain⟨s,hs,rfl⟩:=List.mem_map.1 hx
   exact ty_str (h s hs))
 cases l with
 |nil=>exact absurd rfl hne
 |cons a l=>exact h1
end
end Go.Proofs.YtiheejdkkjfenaaGreatDoor.Pa
namespace Go.Proofs.YtiheejdkkjfenaaGreatDoor.Pa
open Go Go.Proofs.YtiheejdkkjfenaaGreatDoor.Am
section
variable{n:Int}{s:Str}{g:Glob}{Qf:OGP}
end
end Go.Proofs.YtiheejdkkjfenaaGreatDoor.Pa
namespace Go.Proofs.YtiheejdkkjfenaaGreatDoor.Pa
open Go Go.Proofs.YtiheejdkkjfenaaGreatDoor.Am
section
variable{n:Int}{s:Str}{g:Glob}{Qf:OGP}
end
end Go.Proofs.YtiheejdkkjfenaaGreatDoor.Pa
