/- Show: the document's pen. Show: the document's pen on expressions. -/
import Derived.Test.YtmlghadphdpbjaaGreatDoorSC
set_option linter.all false
set_option autoImplicit false
set_option maxRecDepth 100000
namespace Go.Proofs.YtmlghadphdpbjaaGreatDoor.Pa
open Go Go.Proofs.YtmlghadphdpbjaaGreatDoor.Am
theorem leLe{a b:Nat}(h:a≤b):a.le b:=h
section
variable{g:Glob}{q k:Nat}{full:Str}{Qf:OGP}{ds:List Dat}{x y z:Dat}{A B:Prop}
theorem cut_le{s:Str}(h:s.length≤8192):cut s=[.str s,.int .i64 0]:=by
 unfold cut
 rw[show Nat.blt 8192 s.length=false from Bool.eq_false_iff.2 λe=>by have:=Nat.le_of_ble_eq_true e;omega]
 rfl
theorem cut_gt{s:Str}(h:8192<s.length):cut s=[.str [],.int .i64 2]:=by
 unfold cut
 rw[show Nat.blt 8192 s.length=true from Nat.ble_eq_true_of_le (by omega)]
 rfl
end
section
variable{g:Glob}{q k:Nat}{full:Str}{Qf:OGP}{x:Dat}
end
end Go.Proofs.YtmlghadphdpbjaaGreatDoor.Pa
namespace Go.Proofs.YtmlghadphdpbjaaGreatDoor.Pa
open Go Go.Proofs.YtmlghadphdpbjaaGreatDoor.Am
section
variable{g:Glob}{q k:Nat}{full:Str}{Qf:OGP}{x y z:Dat}
end
end Go.Proofs.YtmlghadphdpbjaaGreatDoor.Pa
