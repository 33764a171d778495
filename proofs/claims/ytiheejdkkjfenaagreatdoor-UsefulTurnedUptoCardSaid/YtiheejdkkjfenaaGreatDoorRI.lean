/- Limits of programs, and which may have been read: the program's tests, the document's. Limits as the document has them; which declared types and programs may be. What functions of the program do, printed by wip/tools/sx/sx.py. The document's Check told; the law ParseChecks answers true. -/
import Derived.Test.YtiheejdkkjfenaaGreatDoorRH
import Derived.Test.YtiheejdkkjfenaaGreatDoorRD
set_option linter.all false
set_option autoImplicit false
set_option maxRecDepth 100000
namespace Go.Proofs.YtiheejdkkjfenaaGreatDoor.Pa
open Go Go.Proofs.YtiheejdkkjfenaaGreatDoor.Am
structure Pre(P:Pg):Prop where
 ds:∀d∈P.ds,(∀s∈d.ps,s.length<2^40)∧∀c∈d.cs,∀t∈c.fs,ndTy t≤20000∧dpTy t≤20000∧vrTy t=true
 sz:szEx P.e≤20000
 dp:dpEx P.e≤20000
theorem absDc_cs(x:Dat):(absDc x).cs=(elsOf (fld x 2)).map absCn:=rfl
theorem absPg_ds(x:Dat):(absPg x).ds=(elsOf (fld x 0)).map absDc:=rfl
theorem drop_map_cons{α β:Type}{f:α→β}{xs:List α}{i:Nat}(hi:i<xs.length):(xs.drop i).map f=f xs[i]::(xs.drop (i+1)).map f:=by
 rw[List.drop_eq_getElem_cons hi,List.map_cons]
section
variable{g:Glob}{Qf:OGP}
end
end Go.Proofs.YtiheejdkkjfenaaGreatDoor.Pa
namespace Go.Proofs.YtiheejdkkjfenaaGreatDoor.Pa
open Go Go.Proofs.YtiheejdkkjfenaaGreatDoor.Am
section
variable{g:Glob}{Qf:OGP}
end
end Go.Proofs.YtiheejdkkjfenaaGreatDoor.Pa
namespace Go.Proofs.YtiheejdkkjfenaaGreatDoor.Pa
open Go Go.Proofs.YtiheejdkkjfenaaGreatDoor.Am
end Go.Proofs.YtiheejdkkjfenaaGreatDoor.Pa
namespace Go.Proofs.YtiheejdkkjfenaaGreatDoor.Pa
open Go Go.Proofs.YtiheejdkkjfenaaGreatDoor.Am
section
variable{g:Glob}{Qf:OGP}
theorem nb{b:Bool}(h:(!b)=true):b=false:=by simpa using h
end
theorem strB_els{x:Dat}(h:StrB x):∀y∈elsOf x,StrB y:=by
 cases h with
 |sl m xs _ h=>exact h
 |_=>intro y hy;simp[elsOf] at hy
theorem nth_mem':∀{cs:List Dat} {o:Nat},nth cs o∈cs∨nth cs o=.nil
 |[],o=>.inr rfl
 |x::l,0=>.inl List.mem_cons_self
 |x::l,o+1=>by
  rcases nth_mem' (cs:=l) (o:=o) with h|h
  ·exact .inl (List.mem_cons_of_mem _ h)
  ·exact .inr h
theorem strB_fld{x:Dat}(h:StrB x)(o:Nat):StrB (fld x o):=by
 cases h with
 |agg cs h=>
  simp only[fld]
  rcases nth_mem' (cs:=cs) (o:=o) with h'|h'
  ·exact h _ h'
  ·rw[h'];exact .nil
 |bool b=>exact .bool b
 |int k n=>exact .int k n
 |str s h=>exact .str s h
 |nil=>exact .nil
 |sl m xs hl h=>exact .sl m xs hl h
end Go.Proofs.YtiheejdkkjfenaaGreatDoor.Pa
