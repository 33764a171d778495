/- Useful: the document's Useful, Exhaustive; cases; the law UsefulChecks. Useful: cases; Check of the program and of the document; the law UsefulChecks. -/
import Derived.Test.YtiheejdkkjfenaaGreatDoorSI
set_option linter.all false
set_option autoImplicit false
set_option maxRecDepth 100000
namespace Go.Proofs.YtiheejdkkjfenaaGreatDoor.Pa
open Go Go.Proofs.YtiheejdkkjfenaaGreatDoor.Am
end Go.Proofs.YtiheejdkkjfenaaGreatDoor.Pa
namespace Go.Proofs.YtiheejdkkjfenaaGreatDoor.Pa
open Go Go.Proofs.YtiheejdkkjfenaaGreatDoor.Am
theorem fewF_all{x:Dat}(hx:HasTy TT 28 x)(hb:StrB x):FewF (allDc (absPg x)) 2097152:=by
 intro d hd c hc
 rcases List.mem_append.1 hd with hd|hd
 ·simp only[baseL,List.map_cons,List.map_nil,List.mem_cons,List.not_mem_nil,or_false] at hd
  rcases hd with rfl|rfl|rfl
  ·have:c.fs.length=0:=by
    have hc:c∈[(⟨[85,110,105,116],[]⟩:Cn)]:=hc
    simp only[List.mem_singleton] at hc;rw[hc];rfl
   omega
  ·have:c.fs.length=0:=by
    have hc:c∈[(⟨[70,97,108,115,101],[]⟩:Cn),⟨[84,114,117,101],[]⟩]:=hc
    simp only[List.mem_cons,List.not_mem_nil,or_false] at hc
    rcases hc with rfl|rfl<;>rfl
   omega
  ·have:c.fs.length≤2:=by
    obtain⟨i,hi,rfl⟩:=List.mem_iff_getElem.1 hc
    match i,hi with
    |0,_=>exact Nat.zero_le _
    |1,_=>exact Nat.le_refl _
   omega
 ·rw[absPg_ds] at hd
  obtain⟨y,hy,rfl⟩:=List.mem_map.1 hd
  obtain⟨d1,k1,s1,r1,n1,a1,b1,p1,rfl,hd1,he1⟩:=prog_ty hx
  have hy:y∈elsOf d1:=hy
  have ty:=(hd1.els undDecls).2 _ hy
  have sy:StrB y:=strB_els (strB_fld hb 0) y hy
  rw[absDc_cs] at hc
  obtain⟨z,hz,rfl⟩:=List.mem_map.1 hc
  obtain⟨s2,a2,b2,p2,rfl,hs2,ha2,hb2⟩:=decl_ty ty
  have sz:StrB z:=strB_els (strB_fld sy 2) z hz
  have tz:=(hb2.els undCons).2 _ hz
  have:=strB_len (strB_fld sz 1)
  rw[(con_flds tz).2.1] at this
  omega
end Go.Proofs.YtiheejdkkjfenaaGreatDoor.Pa
