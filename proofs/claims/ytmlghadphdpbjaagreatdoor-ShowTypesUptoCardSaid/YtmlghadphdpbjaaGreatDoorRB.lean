/- The show layer in the plain machine: tables. What stringslite.IndexByte answers: where a byte first is (the model's own entry stands for the function without a Go body). strconv.Itoa in the plain machine, as the kit's shelf lays it. -/
import Derived.Test.YtmlghadphdpbjaaGreatDoorQH
import Derived.Test.YtmlghadphdpbjaaGreatDoorQE
import Derived.Test.YtmlghadphdpbjaaGreatDoorProg
import Derived.Lib.Bytealg
import Derived.Lib.Strings
import Derived.Lib.Slices
import Derived.Lib.Walk
import Derived.Lib.SmallJoins
import Derived.Lib.QuietBelow
import Derived.Test.YtmlghadphdpbjaaGreatDoorRA
set_option linter.all false
set_option autoImplicit false
set_option maxRecDepth 100000
namespace Go.Proofs.YtmlghadphdpbjaaGreatDoor.Pa
open Go Go.RowKit Go.Proofs.YtmlghadphdpbjaaGreatDoor.Am
def escs:FuncId→List Nat
 |11=>[13,10]|13=>[10]|14=>[19,16]|16=>[16]|21=>[14,11]|22=>[10]|226=>[1000000]|71=>[1000002]|70=>[1000002]|98=>[1000002]|145=>[1000002]|44=>[1000000]|37=>[12,6,5,4,1000000]|76=>[1000000]|78=>[1000000]|171=>[1000000]|159=>[1000000]|127=>[1000000]|128=>[1000000]|129=>[1000000]|177=>[1000000]|_=>[]
noncomputable def T0:Tb:=tbOf Tryz.prog [109] escs
theorem okT0:T0.Ok Tryz.prog:=tbOf_ok (by kernel_rfl) (by kernel_rfl) (by kernel_rfl)
end Go.Proofs.YtmlghadphdpbjaaGreatDoor.Pa
namespace Go.Proofs.YtmlghadphdpbjaaGreatDoor.Pa
open Go Go.RowKit Go.Proofs.YtmlghadphdpbjaaGreatDoor.Am
set_option maxHeartbeats 1000000 in
set_option maxRecDepth 100000 in
theorem idx_calls(s:ByteArray)(c:Int)(w:World):
 Calls Tryz.prog 110 #[.string s,.int .u8 c] w λe w'=>e=.returned (.int .i64 (Lib.indexByte s.data.toList c.toNat.toUInt8))∧w'=w:=by
 go_enter Tryz.func110,Tryz.ntmps110
 go_wp2
 rw[run_callFunc_extern Tryz.func153 (by kernel_rfl) (by kernel_rfl) (by kernel_rfl) (e:=Extern.BytealgIndexByte.indexByte) (by kernel_rfl),Lib.run_indexByteString]
 simp only[Result.andThen]
 rw[Oper.upon_value]
 go_wp2
 go_ret
 exact⟨rfl,rfl⟩
def idxSays:List Dat→Glob→Option (Out×Glob)
 |[.str s,.int .u8 c],g=>some (.val (.d (.int .i64 (Lib.indexByte s c.toNat.toUInt8))),g)
 |_,_=>none
theorem idxSays_inv{ds:List Dat}{g:Glob}{r:Out×Glob}(h:idxSays ds g=some r):∃s c,ds=[.str s,.int .u8 c]∧r=(.val (.d (.int .i64 (Lib.indexByte s c.toNat.toUInt8))),g):=by
 match ds,h with
 |[.str s,.int .u8 c],h=>cases h;exact⟨s,c,rfl,rfl⟩
theorem idxSays_ok{Bs:Em→World→Prop}:∀ds g out g',idxSays ds g=some (out,g')→Am.Enters Tryz.prog 110∧∀E w vs,Bs E w→GRel E w g→GlobOnly E→ReL E w ds vs→Calls Tryz.prog 110 vs.toArray w (Post E w g out g'):=by
 intro ds g out g' hs
 obtain⟨s,c,rfl,he⟩:=idxSays_inv hs
 cases he
 refine⟨⟨Tryz.f110,Tryz.func110,by kernel_rfl,by kernel_rfl⟩,λE w vs hb hg ho hr=>?_⟩
 obtain⟨v0,v1,rfl⟩:∃v0 v1,vs=[v0,v1]:=by
  match vs,hr.1 with
  |[v0,v1],_=>exact⟨v0,v1,rfl⟩
 have h0:=hr.2 0 _ _ rfl rfl
 have h1:=hr.2 1 _ _ rfl rfl
 cases h0
 cases h1
 refine(idx_calls ⟨s.toArray⟩ c w).mono λe w' ⟨he,hw⟩=>?_
 subst he hw
 exact⟨E,Up.refl _ _ _,hg,ho,_,rfl,.int _ _⟩
end Go.Proofs.YtmlghadphdpbjaaGreatDoor.Pa
namespace Go.Proofs.YtmlghadphdpbjaaGreatDoor.Pa
open Go Go.RowKit Go.Proofs.YtmlghadphdpbjaaGreatDoor.Am
def PowIn(w:World):Prop:=Lib.TabIs Tryz.prog w "internal/strconv.uint64pow10" .u64 Lib.pow10Tab
structure LaidIn(w:World):Prop where
 errs:ErrsIn w
 pow:PowIn w
def itoaSays:List Dat→Glob→Option (Out×Glob)
 |[.int .i64 n],g=>if -9223372036854775808≤n∧n≤9223372036854775807 then some (.val (.d (.str (Lib.itoa n))),g) else none
 |_,_=>none
theorem itoaSays_inv{ds:List Dat}{g:Glob}{r:Out×Glob}(h:itoaSays ds g=some r):∃n:Int,ds=[.int .i64 n]∧(-9223372036854775808≤n∧n≤9223372036854775807)∧r=(.val (.d (.str (Lib.itoa n))),g):=by
 match ds,h with
 |[.int .i64 n],h=>
  simp only[itoaSays] at h
  split at h
  ·rename_i hn
   cases h
   exact⟨n,rfl,hn,rfl⟩
  ·cases h
theorem itoaSays_ok{w0:World}(h0:PowIn w0):∀ds g out g',itoaSays ds g=some (out,g')→Am.Enters Tryz.prog 97∧∀E w vs,Based w0 E w→GRel E w g→GlobOnly E→ReL E w ds vs→Calls Tryz.prog 97 vs.toArray w (Post E w g out g'):=by
 intro ds g out g' hs
 obtain⟨n,rfl,⟨n0,n1⟩,he⟩:=itoaSays_inv hs
 cases he
 refine⟨⟨Tryz.f97,Tryz.func97,by kernel_rfl,by kernel_rfl⟩,λE w vs hb hg ho hr=>?_⟩
 obtain⟨v0,rfl⟩:∃v0,vs=[v0]:=by
  match vs,hr.1 with
  |[v0],_=>exact⟨v0,rfl⟩
 have h:=hr.2 0 _ _ rfl rfl
 cases h
 have hw:PowIn w:=Go.Joins.tab_stays (g:=1) (by kernel_rfl) h0 hb.1 (Nat.le_refl _)
 refine(Tryz.strconv_Itoa n n0 n1 w hw).mono λe w' ⟨he,k,os,hb'⟩=>?_
 subst he hb'
 have hb':Below w.heap.size w (Go.Sort.grow (w.drewN k) os):=Go.below_regrown w (w.drawn+k) os
 exact⟨E,up_below hg hb',hg.below hb',ho,⟨_,rfl,Rep.str (Lib.itoa n)⟩⟩
end Go.Proofs.YtmlghadphdpbjaaGreatDoor.Pa
