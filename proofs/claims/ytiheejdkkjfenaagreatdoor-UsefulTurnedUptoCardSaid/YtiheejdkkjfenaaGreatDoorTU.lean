/- A run of the program that the laws of layer 17 ask for. A run of the program that laws ask for, cut into pieces: each is one check. -/
import Derived.Test.YtiheejdkkjfenaaGreatDoorTB
import Derived.Test.YtiheejdkkjfenaaGreatDoorQE
set_option linter.all false
set_option autoImplicit false
set_option maxRecDepth 100000
namespace Go.Proofs.YtiheejdkkjfenaaGreatDoor.Pa
open Go Go.RowKit Go.Proofs.YtiheejdkkjfenaaGreatDoor.Am
def exts17(f:FuncId):Option (List Dat→Glob→Option (Out×Glob)):=
 bif Nat.beq f 44 then some wildSays else bif Nat.beq f 125 then some addSays else bif Nat.beq f 189 then some growSays else bif Nat.beq f 72 then some rowSays else none
noncomputable def TW:Tb:={T0 with ext:=exts17}
theorem okTW:TW.Ok Tryz.prog:=withExt_ok okT0
theorem extTW{Bs:Em→World→Prop}:ExtOk Tryz.prog Bs TW:=λf s h=>by
 have h':exts17 f=some s:=h
 unfold exts17 at h'
 cases h1:Nat.beq f 44 with
 |true=>
  rw[h1] at h'
  cases h'
  obtain rfl:=Nat.eq_of_beq_eq_true h1
  exact wildSays_ok
 |false=>
 rw[h1] at h'
 cases h2:Nat.beq f 125 with
 |true=>
  rw[h2] at h'
  cases h'
  obtain rfl:=Nat.eq_of_beq_eq_true h2
  exact addSays_ok
 |false=>
 rw[h2] at h'
 cases h3:Nat.beq f 189 with
 |true=>
  rw[h3] at h'
  cases h'
  obtain rfl:=Nat.eq_of_beq_eq_true h3
  exact growSays_ok
 |false=>
 rw[h3] at h'
 cases h4:Nat.beq f 72 with
 |true=>
  rw[h4] at h'
  cases h'
  obtain rfl:=Nat.eq_of_beq_eq_true h4
  exact rowSays_ok
 |false=>rw[h4] at h';cases h'
end Go.Proofs.YtiheejdkkjfenaaGreatDoor.Pa
namespace Go.Proofs.YtiheejdkkjfenaaGreatDoor.Pa
open Go Go.RowKit Go.Proofs.YtiheejdkkjfenaaGreatDoor.Am
abbrev i(n:Nat):Dat:=.int .i64 n
abbrev q(a b:Nat):Dat:=.ptr (some (a,b))
def wkG0:Glob:=⟨[.cells [.d (.nil),.d (i 3),.d (.str [108]),.d (.str []),.d (i 0),.d (.sl 7 [.agg [i 7,.str [],.str [],i 0,.gsl 1 7 [.agg [i 1,.str [108],.str [],i 0,.nil,.nil,i 14],.agg [i 2,.str [],.str [],i 1,.nil,.nil,i 26],.agg [i 2,.str [],.str [],i 2,.nil,.nil,i 44]],.gsl 3 5 [.agg [i 4,.str [78,105,108],i 0,.nil,i 19],.agg [i 4,.str [67,111,110,115],i 0,.gsl 6 5 [.agg [i 2,.str [120],i 0,.nil,i 35],.agg [i 4,.str [78,105,108],i 0,.nil,i 37]],i 30]],i 9]]),.d (.nil),.d (i 0)],.cells [.d (i 0)],.cells [.d (i 0)],.cells [.d (.sl 4 [.agg [i 5,.str [102,117,110],i 0,i 0],.agg [i 1,.str [108],i 0,i 4],.agg [i 6,.str [45,62],i 0,i 6],.agg [i 5,.str [99,97,115,101],i 0,i 9],.agg [i 1,.str [108],i 0,i 14],.agg [i 5,.str [111,102],i 0,i 16],.agg [i 2,.str [78,105,108],i 0,i 19],.agg [i 6,.str [45,62],i 0,i 23],.agg [i 4,.str [],i 1,i 26],.agg [i 6,.str [124],i 0,i 28],.agg [i 2,.str [67,111,110,115],i 0,i 30],.agg [i 1,.str [120],i 0,i 35],.agg [i 2,.str [78,105,108],i 0,i 37],.agg [i 6,.str [45,62],i 0,i 41],.agg [i 4,.str [],i 2,i 44],.agg [i 5,.str [101,110,100],i 0,i 46]]),.d (i 16),.d (i 49)]],[(7,1),(7,3),(5,1),(5,2),(7,1),(5,1),(5,2),(5,1),(5,1),(7,1)]⟩
def wkR0_0:Ran:=⟨[.str [102,117,110,32,108,32,45,62,32,99,97,115,101,32,108,32,111,102,32,78,105,108,32,45,62,32,49,32,124,32,67,111,110,115,32,120,32,78,105,108,32,45,62,32,50,32,101,110,100]],⟨[],[]⟩,.val (.tuple [.d (.agg [.nil,i 3,.str [108],.str [],i 0,.sl 7 [.agg [i 7,.str [],.str [],i 0,.gsl 1 7 [.agg [i 1,.str [108],.str [],i 0,.nil,.nil,i 14],.agg [i 2,.str [],.str [],i 1,.nil,.nil,i 26],.agg [i 2,.str [],.str [],i 2,.nil,.nil,i 44]],.gsl 3 5 [.agg [i 4,.str [78,105,108],i 0,.nil,i 19],.agg [i 4,.str [67,111,110,115],i 0,.gsl 6 5 [.agg [i 2,.str [120],i 0,.nil,i 35],.agg [i 4,.str [78,105,108],i 0,.nil,i 37]],i 30]],i 9]],.nil,i 0]),.d (i 0),.d (i 0)]),wkG0⟩
theorem wkr0_0:run TW 2000 33 wkR0_0.ds wkR0_0.g=some (wkR0_0.out,wkR0_0.g'):=by kernel_rfl
def wkL0:List Ran:=[wkR0_0]
theorem wkl0:∀t∈wkL0,run TW 2000 33 t.ds t.g=some (t.out,t.g'):=by
 intro t ht
 simp only[wkL0,List.mem_cons,List.not_mem_nil,or_false] at ht
 rcases ht with rfl
 ·exact wkr0_0
def wkE0(f:FuncId):Option (List Dat→Glob→Option (Out×Glob)):=bif Nat.beq f 33 then some (ran wkL0) else exts17 f
noncomputable def wkT0:Tb:={TW with ext:=wkE0}
theorem okwkT0:wkT0.Ok Tryz.prog:=withExt_ok okTW
theorem wkx0:ExtOk Tryz.prog (λ_ _=>True) wkT0:=λf s h=>by
 have h':wkE0 f=some s:=h
 unfold wkE0 at h'
 cases h1:Nat.beq f 33 with
 |true=>
  rw[h1] at h'
  cases h'
  obtain rfl:=Nat.eq_of_beq_eq_true h1
  exact ran_ok base_true okTW extTW wkl0
 |false=>
  rw[h1] at h'
  exact extTW f s h'
def wkG1:Glob:=⟨[.cells [.d (.nil),.d (i 3),.d (.str [108]),.d (.str []),.d (i 0),.d (.sl 7 [.agg [i 7,.str [],.str [],i 0,.gsl 1 7 [.agg [i 1,.str [108],.str [],i 0,.nil,.nil,i 14],.agg [i 2,.str [],.str [],i 1,.nil,.nil,i 26],.agg [i 2,.str [],.str [],i 2,.nil,.nil,i 44]],.gsl 3 5 [.agg [i 4,.str [78,105,108],i 0,.nil,i 19],.agg [i 4,.str [67,111,110,115],i 0,.gsl 6 5 [.agg [i 2,.str [120],i 0,.nil,i 35],.agg [i 4,.str [78,105,108],i 0,.nil,i 37]],i 30]],i 9]]),.d (.nil),.d (i 0)],.cells [.d (i 0)],.cells [.d (i 0)],.cells [.d (.sl 4 [.agg [i 5,.str [102,117,110],i 0,i 0],.agg [i 1,.str [108],i 0,i 4],.agg [i 6,.str [45,62],i 0,i 6],.agg [i 5,.str [99,97,115,101],i 0,i 9],.agg [i 1,.str [108],i 0,i 14],.agg [i 5,.str [111,102],i 0,i 16],.agg [i 2,.str [78,105,108],i 0,i 19],.agg [i 6,.str [45,62],i 0,i 23],.agg [i 4,.str [],i 1,i 26],.agg [i 6,.str [124],i 0,i 28],.agg [i 2,.str [67,111,110,115],i 0,i 30],.agg [i 1,.str [120],i 0,i 35],.agg [i 2,.str [78,105,108],i 0,i 37],.agg [i 6,.str [45,62],i 0,i 41],.agg [i 4,.str [],i 2,i 44],.agg [i 5,.str [101,110,100],i 0,i 46]]),.d (i 16),.d (i 49)],.cells [.d (i 0),.d (i 0)],.map [] 2,.cells [.d (.sl 4 [.agg [.str [117,110,105,116],.nil,.sl 2 [.agg [.str [85,110,105,116],.nil]],i 0],.agg [.str [98,111,111,108],.nil,.sl 2 [.agg [.str [70,97,108,115,101],.nil],.agg [.str [84,114,117,101],.nil]],i 0],.agg [.str [108,105,115,116],.sl 1 [.str [97]],.sl 2 [.agg [.str [78,105,108],.nil],.agg [.str [67,111,110,115],.sl 4 [.agg [i 2,.str [97],i 0,.nil],.agg [i 4,.str [108,105,115,116],i 0,.sl 4 [.agg [i 2,.str [97],i 0,.nil]]]]]],i 0]]),.d (.map (some 5))],.map [(.str [105,110,116],i 1,0),(.str [117,110,105,116],i 1,1),(.str [98,111,111,108],i 1,2),(.str [108,105,115,116],i 1,3)] 4,.map [(.str [85,110,105,116],i 1,0),(.str [70,97,108,115,101],i 1,1),(.str [84,114,117,101],i 1,2),(.str [78,105,108],i 1,3),(.str [67,111,110,115],i 1,4)] 5,.cells [.d (q 6 0)],.cells [.d (i 2),.d (.str [97]),.d (i 0),.d (.nil)],.cells [.d (.str [108,105,115,116]),.d (.sl 1 [.str [97]]),.d (.sl 2 [.agg [.str [78,105,108],.nil],.agg [.str [67,111,110,115],.sl 4 [.agg [i 2,.str [97],i 0,.nil],.agg [i 4,.str [108,105,115,116],i 0,.sl 4 [.agg [i 2,.str [97],i 0,.nil]]]]]]),.d (i 0)],.cells [.d (q 6 0)],.cells [.d (i 4),.d (.str [108,105,115,116]),.d (i 0),.d (.sl 4 [.agg [i 2,.str [97],i 0,.nil]])],.cells [.d (.str [108,105,115,116]),.d (.sl 1 [.str [97]]),.d (.sl 2 [.agg [.str [78,105,108],.nil],.agg [.str [67,111,110,115],.sl 4 [.agg [i 2,.str [97],i 0,.nil],.agg [i 4,.str [108,105,115,116],i 0,.sl 4 [.agg [i 2,.str [97],i 0,.nil]]]]]]),.d (i 0)],.cells [.d (q 6 0)],.cells [.d (i 2),.d (.str [97]),.d (i 0),.d (.nil)],.cells [.d (.str [108,105,115,116]),.d (.sl 1 [.str [97]]),.d (.sl 2 [.agg [.str [78,105,108],.nil],.agg [.str [67,111,110,115],.sl 4 [.agg [i 2,.str [97],i 0,.nil],.agg [i 4,.str [108,105,115,116],i 0,.sl 4 [.agg [i 2,.str [97],i 0,.nil]]]]]]),.d (i 0)],.cells [.d (q 6 0)],.cells [.d (i 7),.d (.str []),.d (.str []),.d (i 0),.d (.gsl 1 7 [.agg [i 1,.str [108],.str [],i 0,.nil,.nil,i 14],.agg [i 2,.str [],.str [],i 1,.nil,.nil,i 26],.agg [i 2,.str [],.str [],i 2,.nil,.nil,i 44]]),.d (.gsl 3 5 [.agg [i 4,.str [78,105,108],i 0,.nil,i 19],.agg [i 4,.str [67,111,110,115],i 0,.gsl 6 5 [.agg [i 2,.str [120],i 0,.nil,i 35],.agg [i 4,.str [78,105,108],i 0,.nil,i 37]],i 30]]),.d (i 9)],.cells [.d (.sl 1 [.str [108]])],.cells [.d (q 6 0)],.cells [.d (i 1),.d (.str [108]),.d (.str []),.d (i 0),.d (.nil),.d (.nil),.d (i 14)],.cells [.d (.nil)],.cells [.d (q 6 0)],.cells [.d (i 2),.d (.str []),.d (.str []),.d (i 1),.d (.nil),.d (.nil),.d (i 26)],.cells [.d (.nil)],.cells [.d (q 6 0)],.cells [.d (i 2),.d (.str []),.d (.str []),.d (i 2),.d (.nil),.d (.nil),.d (i 44)],.cells [.d (.gsl 11 1 [.str [120]])],.cells [.d (q 6 0)],.cells [.d (.sl 4 [.agg [.str [117,110,105,116],.nil,.sl 2 [.agg [.str [85,110,105,116],.nil]],i 0],.agg [.str [98,111,111,108],.nil,.sl 2 [.agg [.str [70,97,108,115,101],.nil],.agg [.str [84,114,117,101],.nil]],i 0],.agg [.str [108,105,115,116],.sl 1 [.str [97]],.sl 2 [.agg [.str [78,105,108],.nil],.agg [.str [67,111,110,115],.sl 4 [.agg [i 2,.str [97],i 0,.nil],.agg [i 4,.str [108,105,115,116],i 0,.sl 4 [.agg [i 2,.str [97],i 0,.nil]]]]]],i 0]])],.cells [.d (.sl 4 [.agg [.str [117,110,105,116],.nil,.sl 2 [.agg [.str [85,110,105,116],.nil]],i 0],.agg [.str [98,111,111,108],.nil,.sl 2 [.agg [.str [70,97,108,115,101],.nil],.agg [.str [84,114,117,101],.nil]],i 0],.agg [.str [108,105,115,116],.sl 1 [.str [97]],.sl 2 [.agg [.str [78,105,108],.nil],.agg [.str [67,111,110,115],.sl 4 [.agg [i 2,.str [97],i 0,.nil],.agg [i 4,.str [108,105,115,116],i 0,.sl 4 [.agg [i 2,.str [97],i 0,.nil]]]]]],i 0]])],.cells [.d (i 1)],.cells [.d (.sl 4 [.agg [.str [117,110,105,116],.nil,.sl 2 [.agg [.str [85,110,105,116],.nil]],i 0],.agg [.str [98,111,111,108],.nil,.sl 2 [.agg [.str [70,97,108,115,101],.nil],.agg [.str [84,114,117,101],.nil]],i 0],.agg [.str [108,105,115,116],.sl 1 [.str [97]],.sl 2 [.agg [.str [78,105,108],.nil],.agg [.str [67,111,110,115],.sl 4 [.agg [i 2,.str [97],i 0,.nil],.agg [i 4,.str [108,105,115,116],i 0,.sl 4 [.agg [i 2,.str [97],i 0,.nil]]]]]],i 0]])],.cells [.d (i 1)],.cells [.d (.sl 4 [.agg [.str [117,110,105,116],.nil,.sl 2 [.agg [.str [85,110,105,116],.nil]],i 0],.agg [.str [98,111,111,108],.nil,.sl 2 [.agg [.str [70,97,108,115,101],.nil],.agg [.str [84,114,117,101],.nil]],i 0],.agg [.str [108,105,115,116],.sl 1 [.str [97]],.sl 2 [.agg [.str [78,105,108],.nil],.agg [.str [67,111,110,115],.sl 4 [.agg [i 2,.str [97],i 0,.nil],.agg [i 4,.str [108,105,115,116],i 0,.sl 4 [.agg [i 2,.str [97],i 0,.nil]]]]]],i 0]])],.cells [.d (i 2)],.cells [.d (.sl 4 [.agg [.str [117,110,105,116],.nil,.sl 2 [.agg [.str [85,110,105,116],.nil]],i 0],.agg [.str [98,111,111,108],.nil,.sl 2 [.agg [.str [70,97,108,115,101],.nil],.agg [.str [84,114,117,101],.nil]],i 0],.agg [.str [108,105,115,116],.sl 1 [.str [97]],.sl 2 [.agg [.str [78,105,108],.nil],.agg [.str [67,111,110,115],.sl 4 [.agg [i 2,.str [97],i 0,.nil],.agg [i 4,.str [108,105,115,116],i 0,.sl 4 [.agg [i 2,.str [97],i 0,.nil]]]]]],i 0]])],.cells [.d (i 2)],.cells [.d (.sl 4 [.agg [.str [117,110,105,116],.nil,.sl 2 [.agg [.str [85,110,105,116],.nil]],i 0],.agg [.str [98,111,111,108],.nil,.sl 2 [.agg [.str [70,97,108,115,101],.nil],.agg [.str [84,114,117,101],.nil]],i 0],.agg [.str [108,105,115,116],.sl 1 [.str [97]],.sl 2 [.agg [.str [78,105,108],.nil],.agg [.str [67,111,110,115],.sl 4 [.agg [i 2,.str [97],i 0,.nil],.agg [i 4,.str [108,105,115,116],i 0,.sl 4 [.agg [i 2,.str [97],i 0,.nil]]]]]],i 0]])],.cells [.d (i 1)],.cells [.d (.bool true)],.cells [.d (i 0)],.cells [.d (.sl 4 [.agg [.str [117,110,105,116],.nil,.sl 2 [.agg [.str [85,110,105,116],.nil]],i 0],.agg [.str [98,111,111,108],.nil,.sl 2 [.agg [.str [70,97,108,115,101],.nil],.agg [.str [84,114,117,101],.nil]],i 0],.agg [.str [108,105,115,116],.sl 1 [.str [97]],.sl 2 [.agg [.str [78,105,108],.nil],.agg [.str [67,111,110,115],.sl 4 [.agg [i 2,.str [97],i 0,.nil],.agg [i 4,.str [108,105,115,116],i 0,.sl 4 [.agg [i 2,.str [97],i 0,.nil]]]]]],i 0]]),.d (i 5)],.cells [.d (q 44 0)],.cells [.d (.sl 1 [.sl 5 [.agg [i 4,.str [78,105,108],i 0,.nil,i 19]],.sl 5 [.agg [i 4,.str [67,111,110,115],i 0,.gsl 6 5 [.agg [i 2,.str [120],i 0,.nil,i 35],.agg [i 4,.str [78,105,108],i 0,.nil,i 37]],i 30]]])],.cells [.d (.sl 5 [.agg [i 1,.str [],i 0,.nil,i 0]])],.cells [.d (.clo 126 [q 46 0])],.cells [.d (.clo 128 [q 45 0,q 48 0,q 47 0])],.cells [.d (i 1),.d (.str []),.d (i 0),.d (.nil),.d (i 0)],.map [(.str [78,105,108],i 1,0),(.str [67,111,110,115],i 1,1)] 2,.cells [.d (.map (some 51))],.cells [.d (.str [78,105,108])],.cells [.d (.sl 5 [])],.cells [.d (q 44 0)],.cells [.d (.sl 1 [.nil])],.cells [.d (.nil)],.cells [.d (.str [67,111,110,115])],.cells [.d (.sl 5 [.agg [i 1,.str [],i 0,.nil,i 0],.agg [i 1,.str [],i 0,.nil,i 0]])],.cells [.d (q 44 0)],.cells [.d (.sl 1 [.gsl 14 5 [.agg [i 2,.str [120],i 0,.nil,i 35],.agg [i 4,.str [78,105,108],i 0,.nil,i 37]]])],.cells [.d (.gsl 15 5 [.agg [i 1,.str [],i 0,.nil,i 0],.agg [i 1,.str [],i 0,.nil,i 0]])],.cells [.d (.clo 126 [q 61 0])],.cells [.d (.clo 128 [q 60 0,q 63 0,q 62 0])],.cells [.d (i 1),.d (.str []),.d (i 0),.d (.nil),.d (i 0)],.map [] 0,.cells [.d (.map (some 66))],.cells [.d (q 44 0)],.cells [.d (.sl 1 [.gsl 16 5 [.agg [i 4,.str [78,105,108],i 0,.nil,i 37]]])],.cells [.d (.sl 5 [.agg [i 1,.str [],i 0,.nil,i 0]])],.cells [.d (.clo 126 [q 69 0])],.cells [.d (.clo 128 [q 68 0,q 71 0,q 70 0])],.cells [.d (i 1),.d (.str []),.d (i 0),.d (.nil),.d (i 0)],.map [(.str [78,105,108],i 1,0)] 1,.cells [.d (.map (some 74))],.cells [.d (q 44 0)],.cells [.d (.nil)],.cells [.d (.sl 5 [])]],[(7,1),(7,3),(5,1),(5,2),(7,1),(5,1),(5,2),(5,1),(5,1),(7,1),(1,1),(1,1),(1,3),(1,1),(5,2),(5,2),(5,1)]⟩
def wkR1_0:Ran:=⟨[.agg [.nil,i 3,.str [108],.str [],i 0,.sl 7 [.agg [i 7,.str [],.str [],i 0,.gsl 1 7 [.agg [i 1,.str [108],.str [],i 0,.nil,.nil,i 14],.agg [i 2,.str [],.str [],i 1,.nil,.nil,i 26],.agg [i 2,.str [],.str [],i 2,.nil,.nil,i 44]],.gsl 3 5 [.agg [i 4,.str [78,105,108],i 0,.nil,i 19],.agg [i 4,.str [67,111,110,115],i 0,.gsl 6 5 [.agg [i 2,.str [120],i 0,.nil,i 35],.agg [i 4,.str [78,105,108],i 0,.nil,i 37]],i 30]],i 9]],.nil,i 0]],wkG0,.val (.d (.agg [i 170,i 9])),wkG1⟩
theorem wkr1_0:run wkT0 2000 11 wkR1_0.ds wkR1_0.g=some (wkR1_0.out,wkR1_0.g'):=by kernel_rfl
def wkL1:List Ran:=[wkR1_0]
theorem wkl1:∀t∈wkL1,run wkT0 2000 11 t.ds t.g=some (t.out,t.g'):=by
 intro t ht
 simp only[wkL1,List.mem_cons,List.not_mem_nil,or_false] at ht
 rcases ht with rfl
 ·exact wkr1_0
def wkE1(f:FuncId):Option (List Dat→Glob→Option (Out×Glob)):=bif Nat.beq f 11 then some (ran wkL1) else wkE0 f
noncomputable def wkT1:Tb:={TW with ext:=wkE1}
theorem okwkT1:wkT1.Ok Tryz.prog:=withExt_ok okTW
theorem wkx1:ExtOk Tryz.prog (λ_ _=>True) wkT1:=λf s h=>by
 have h':wkE1 f=some s:=h
 unfold wkE1 at h'
 cases h1:Nat.beq f 11 with
 |true=>
  rw[h1] at h'
  cases h'
  obtain rfl:=Nat.eq_of_beq_eq_true h1
  exact ran_ok base_true okwkT0 wkx0 wkl1
 |false=>
  rw[h1] at h'
  exact wkx0 f s h'
theorem wakes17(w:World):Calls Tryz.prog 9 #[] w λe w'=>e=.returned (.bool true)∧Go.RowKit.Below w.heap.size w w':=
 start_true okwkT1 wkx1 (n:=2000) (by kernel_rfl) w
end Go.Proofs.YtiheejdkkjfenaaGreatDoor.Pa
