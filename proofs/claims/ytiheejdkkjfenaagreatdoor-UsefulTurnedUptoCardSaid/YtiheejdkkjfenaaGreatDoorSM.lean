/- Useful: the law UsefulTrue. -/
import Derived.Test.YtiheejdkkjfenaaGreatDoorSL
set_option linter.all false
set_option autoImplicit false
set_option maxRecDepth 100000
namespace Go.Proofs.YtiheejdkkjfenaaGreatDoor.Pa
open Go Go.Proofs.YtiheejdkkjfenaaGreatDoor.Am
theorem undIntsV:TT.und 46=some (.slice 3):=by kernel_rfl
theorem szIntV:TT.size 3=some 1:=by kernel_rfl
theorem byIntV:TT.bytes 3=some 8:=by kernel_rfl
theorem idleF_len(D:List Dc)(ps:List Pt):∀(l:List Pt) (i:Nat) (out:List Nat),(idleF D ps i out l).1.length≤out.length+l.length
 |[],i,out=>Nat.le_refl _
 |p::l,i,out=>by
  simp only[idleF]
  cases (askedF D (colOf (ps.take i)) [p]).2==0 with
  |false=>exact Nat.zero_le _
  |true=>
   rw[cond_true]
   have:=idleF_len D ps l (i+1) (bif (askedF D (colOf (ps.take i)) [p]).1 then out else out++[i])
   have h2:(bif (askedF D (colOf (ps.take i)) [p]).1 then out else out++[i]).length≤out.length+1:=by
    cases (askedF D (colOf (ps.take i)) [p]).1<;>simp
   simp only[List.length_cons]
   omega
theorem idleD_len(D:List Dc)(ps:List Pt):(idleD D ps).1.length≤ps.length:=by
 unfold idleD
 cases mayB D (colOf ps) 1 with
 |false=>exact Nat.zero_le _
 |true=>simpa using idleF_len D ps ps 0 []
theorem natD_ty{l:List Nat}(h:l.length≤2^30):HasTy TT 46 (slOf 1 (natD l)):=
 slOf_ty undIntsV szIntV (fitOf byIntV (by omega) (by simpa[natD] using h)) λy hy=>by
  obtain⟨n,_,rfl⟩:=List.mem_map.1 hy
  exact ty_int
end Go.Proofs.YtiheejdkkjfenaaGreatDoor.Pa
